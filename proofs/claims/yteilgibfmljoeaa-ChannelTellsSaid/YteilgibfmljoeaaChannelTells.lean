/-
  THE STATEMENT 'Rows.ChannelTellsSaid': nightjarlaw12.ChannelTells returns true for every input, and its arguments read afterwards as they read before. No condition.
-/
import Derived.Test.YteilgibfmljoeaaChanTR2
import Derived.Test.YteilgibfmljoeaaSendRead
import Derived.Test.YteilgibfmljoeaaChanRead
import Derived.Test.YteilgibfmljoeaaBox
import Derived.Test.YteilgibfmljoeaaRows
import Derived.Deep.DeepCutAuto
import Derived.Deep.Light
import Derived.ProofKit
import Derived.OpenShut
import Derived.ShutString
import Derived.ChangeOld
import Derived.Below
set_option linter.unusedVariables false
set_option linter.unusedSimpArgs false
namespace Go.Proofs.Yteilgibfmljoeaa.lawChannelTells
open Go Go.RowKit Nj K


set_option maxRecDepth 100000 in
set_option maxHeartbeats 8000000 in
theorem walk (n : Int) (v : Value) (c a : Int) (r : Rt) (l : List Fl) (va : Value) (la : List Ac) (no : Int) (vo : Value) (co ao : Int) (ro : Rt) (lo : List Fl) (w : World) (h : Fls w v l) (wn : (Lit.int .i64 n).wf = true) (ha : Acs w va la) (hwf : ∀ a ∈ la, (Lit.int .i64 a.n).wf = true) (ho : Fls w vo lo) (wno : (Lit.int .i64 no).wf = true) :
    Calls Try.prog 6 #[.agg #[.int .i64 n, v, .int .i64 c, .int .i64 a, .int .i64 r.s, .int .i64 r.v, .int .i64 r.rto, .int .i64 r.fails, .bool r.has], va, .agg #[.int .i64 no, vo, .int .i64 co, .int .i64 ao, .int .i64 ro.s, .int .i64 ro.v, .int .i64 ro.rto, .int .i64 ro.fails, .bool ro.has]] w fun e w' => e = .returned (.bool true) ∧ Below w.heap.size w w' := by
  have FS := Lib.hid h
  have FO := Lib.hid ho
  have HA := Lib.hid ha
  have HWf := Lib.hid hwf
  obtain ⟨hn0, hn1⟩ := wf_i64 wn
  obtain ⟨hno0, hno1⟩ := wf_i64 wno
  obtain ⟨p, cap, rfl, hcap⟩ := fls_shape h
  obtain ⟨po, capo, rfl, hcapo⟩ := fls_shape ho
  obtain ⟨pa, capa, rfl, hcapa⟩ := acs_shape ha
  have hm : la.length ≤ 9223372036854775807 := ha.1
  have hml : l.length ≤ 9223372036854775807 := h.1
  have hmo : lo.length ≤ 9223372036854775807 := ho.1
  clear h wn ha ho wno hwf
  by_cases hbad : 100 < la.length ∨ 50 < l.length ∨ 50 < lo.length
  · have HBad := Lib.hid hbad
    clear hbad
    go_enter Try.func6, Try.ntmps6
    go_upto_region 1 with fail
    refine gen_wp (fun w1 => Hid (w1.heap[w.heap.size]? = some (.cells #[.int .i64 n, .slice p l.length cap, .int .i64 c, .int .i64 a, .int .i64 r.s, .int .i64 r.v, .int .i64 r.rto, .int .i64 r.fails, .bool r.has] 28)) ∧ Hid (w1.heap[(w.heap.size + 1)]? = some (.cells #[.int .i64 no, .slice po lo.length capo, .int .i64 co, .int .i64 ao, .int .i64 ro.s, .int .i64 ro.v, .int .i64 ro.rto, .int .i64 ro.fails, .bool ro.has] 28)) ∧ Hid (Below w.heap.size w w1) ∧ True) ⟨Lib.hid (by first | (simp [World.setCell, Array.getElem?_modify]; done) | (simp [World.setCell, Array.getElem?_modify]; omega) | ((repeat (first | (with_reducible exact heap_new _ _ _ (by first | rfl | (simp; done))) | (with_reducible refine keepa ?_ _) | (simp [World.setCell, Array.getElem?_modify]; done))); done)), Lib.hid (by first | (simp [World.setCell, Array.getElem?_modify]; done) | (simp [World.setCell, Array.getElem?_modify]; omega) | ((repeat (first | (with_reducible exact heap_new _ _ _ (by first | rfl | (simp; done))) | (with_reducible refine keepa ?_ _) | (simp [World.setCell, Array.getElem?_modify]; done))); done)), Lib.hid (by (repeat (first | (with_reducible exact Below.refl _ _) | (with_reducible refine bel_set (by first | omega | (simp; done) | (simp; omega)) ?_) | (with_reducible refine bel_alloc (by first | omega | (simp; done) | (simp; omega)) ?_) | (with_reducible refine bel_drew ?_) | (with_reducible refine bel_drewN ?_ _))); first | done | fail "left"), trivial⟩ ?_
    rintro w1 ⟨A1, A2, BA, -⟩
    have c_A1 := cell_of_block A1.out
    have f_A1 := frozen_of_block A1.out
    have c_A2 := cell_of_block A2.out
    have f_A2 := frozen_of_block A2.out
    replace FS := fls_keep FS BA
    replace FO := fls_keep FO BA
    go_wp2_with fail
    refine (small12_any _).mono ?_; rintro e w2 ⟨rfl, B2⟩
    replace A1 := Lib.hid (keepb A1.out B2.out)
    replace c_A1 := cell_of_block A1.out
    replace f_A1 := frozen_of_block A1.out
    replace A2 := Lib.hid (keepb A2.out B2.out)
    replace c_A2 := cell_of_block A2.out
    replace f_A2 := frozen_of_block A2.out
    replace FS := fls_keep FS B2
    replace FO := fls_keep FO B2
    replace BA := Lib.hid (chain BA.out B2.out)
    go_wp2_with fail
    all_goals first
      | (go_ret; exact ⟨rfl, BA.out⟩)
      | (exfalso; have := HBad.out; omega)
  · obtain ⟨e0, e3, e4⟩ : la.length ≤ 100 ∧ l.length ≤ 50 ∧ lo.length ≤ 50 := by omega
    clear hbad
    obtain ⟨rb, hrb⟩ : ∃ rb, chRight ⟨⟨n, l, c, a⟩, r⟩ = rb := ⟨_, rfl⟩
    obtain ⟨sm, hsm⟩ : ∃ sm, decide (Ch.mk ⟨n, l, c, a⟩ r = Ch.mk ⟨no, lo, co, ao⟩ ro) = sm := ⟨_, rfl⟩
    have HR := Lib.hid hrb
    have HSm := Lib.hid hsm
    have HRR := Lib.hid (fun W (h : Fls W (.slice p l.length cap) l) => qcright_any n _ c a r l W h hn1)
    have HRS := Lib.hid (fun W (h : Fls W (.slice p l.length cap) l) (h' : Fls W (.slice po lo.length capo) lo) => qcsame_any n _ c a r l no _ co ao ro lo W h h')
    rw [hrb] at HRR
    rw [hsm] at HRS
    clear hrb hsm
    go_enter Try.func6, Try.ntmps6
    go_upto_region 1 with fail
    refine gen_wp (fun w1 => Hid (w1.heap[w.heap.size]? = some (.cells #[.int .i64 n, .slice p l.length cap, .int .i64 c, .int .i64 a, .int .i64 r.s, .int .i64 r.v, .int .i64 r.rto, .int .i64 r.fails, .bool r.has] 28)) ∧ Hid (w1.heap[(w.heap.size + 1)]? = some (.cells #[.int .i64 no, .slice po lo.length capo, .int .i64 co, .int .i64 ao, .int .i64 ro.s, .int .i64 ro.v, .int .i64 ro.rto, .int .i64 ro.fails, .bool ro.has] 28)) ∧ Hid (Below w.heap.size w w1) ∧ True) ⟨Lib.hid (by first | (simp [World.setCell, Array.getElem?_modify]; done) | (simp [World.setCell, Array.getElem?_modify]; omega) | ((repeat (first | (with_reducible exact heap_new _ _ _ (by first | rfl | (simp; done))) | (with_reducible refine keepa ?_ _) | (simp [World.setCell, Array.getElem?_modify]; done))); done)), Lib.hid (by first | (simp [World.setCell, Array.getElem?_modify]; done) | (simp [World.setCell, Array.getElem?_modify]; omega) | ((repeat (first | (with_reducible exact heap_new _ _ _ (by first | rfl | (simp; done))) | (with_reducible refine keepa ?_ _) | (simp [World.setCell, Array.getElem?_modify]; done))); done)), Lib.hid (by (repeat (first | (with_reducible exact Below.refl _ _) | (with_reducible refine bel_set (by first | omega | (simp; done) | (simp; omega)) ?_) | (with_reducible refine bel_alloc (by first | omega | (simp; done) | (simp; omega)) ?_) | (with_reducible refine bel_drew ?_) | (with_reducible refine bel_drewN ?_ _))); first | done | fail "left"), trivial⟩ ?_
    rintro w1 ⟨A1, A2, BA, -⟩
    have c_A1 := cell_of_block A1.out
    have f_A1 := frozen_of_block A1.out
    have c_A2 := cell_of_block A2.out
    have f_A2 := frozen_of_block A2.out
    replace FS := fls_keep FS BA
    replace FO := fls_keep FO BA
    go_wp2_with fail
    refine (small12_any _).mono ?_; rintro e w2 ⟨rfl, B2⟩
    replace A1 := Lib.hid (keepb A1.out B2.out)
    replace c_A1 := cell_of_block A1.out
    replace f_A1 := frozen_of_block A1.out
    replace A2 := Lib.hid (keepb A2.out B2.out)
    replace c_A2 := cell_of_block A2.out
    replace f_A2 := frozen_of_block A2.out
    replace FS := fls_keep FS B2
    replace FO := fls_keep FO B2
    replace BA := Lib.hid (chain BA.out B2.out)
    go_upto_region 4 with fail
    have HC1 := Lib.hid (fun d os => reg_of (cright_at n _ c a r l rb (Go.Sort.grow (redrawn w2 d) os) (FS.out.regrown (by decide) d os) hn1 HR.out))
    have HC2 := Lib.hid (fun d os => reg_of (HRR.out (Go.Sort.grow (redrawn w2 d) os) (FS.out.regrown (by decide) d os)))
    have HC3 := Lib.hid (fun d os => reg_of (csame_at n _ c a r l no _ co ao ro lo sm (Go.Sort.grow (redrawn w2 d) os) (FS.out.regrown (by decide) d os) (FO.out.regrown (by decide) d os) HSm.out))
    have HC4 := Lib.hid (fun d os => reg_of (HRS.out (Go.Sort.grow (redrawn w2 d) os) (FS.out.regrown (by decide) d os) (FO.out.regrown (by decide) d os)))
    have xb := bne_self_eq_false rb
    have xs := bne_self_eq_false sm
    have r_A1 := fun d os => cell_of_block (keepb A1.out (below_regrown w2 d os))
    have r_A2 := fun d os => cell_of_block (keepb A2.out (below_regrown w2 d os))
    refine wp_region_quiet_below (by kernel_rfl) (by kernel_rfl) ?_
    (try simp only [List.append_eq, List.cons_append, List.nil_append])
    repeat (first | go_big_quiet_skip | (go_big_quiet_want; go_big_quiet_op; first | go_big_quiet_on | (apply Exists.intro; refine ⟨fun _ => ?_, ?_⟩; (focus ((first | (go_at_call 10; with_reducible exact HC1.out _ _) | (go_at_call 18; with_reducible exact HC2.out _ _) | (go_at_call 14; with_reducible exact HC3.out _ _) | (go_at_call 19; with_reducible exact HC4.out _ _)))); go_big_quiet_on)))
    refine wpQuiet_nil ?_
    intro _ hw'
    obtain ⟨⟨dq, osq⟩, hw''⟩ := hw'
    subst hw''
    have BQ := Lib.hid (below_regrown w2 dq osq)
    generalize Go.Sort.grow (redrawn w2 dq) osq = w3 at BQ ⊢
    clear HC1 HC2 HC3 HC4 r_A1 r_A2
    replace A1 := Lib.hid (keepb A1.out BQ.out)
    replace c_A1 := cell_of_block A1.out
    replace f_A1 := frozen_of_block A1.out
    replace A2 := Lib.hid (keepb A2.out BQ.out)
    replace c_A2 := cell_of_block A2.out
    replace f_A2 := frozen_of_block A2.out
    replace FS := fls_keep FS BQ
    replace BA := Lib.hid (chain BA.out BQ.out)
    go_wp2_with fail
    refine (HRR.out _ FS.out).mono ?_; rintro e w4 ⟨rfl, B4⟩
    replace A1 := Lib.hid (keepb A1.out B4.out)
    replace c_A1 := cell_of_block A1.out
    replace f_A1 := frozen_of_block A1.out
    replace FS := fls_keep FS B4
    replace BA := Lib.hid (chain BA.out B4.out)
    clear B2 B4 BQ FO HRS
    cases rb with
    | false =>
      go_wp2_with fail
      go_ret
      exact ⟨rfl, BA.out⟩
    | true =>
      have hz0 : w.heap.size ≤ w4.heap.size := BA.out.size
      go_upto_region 9 with fail
      refine gen_wp (fun w5 => Hid (Below w4.heap.size w4 w5) ∧ Hid (w5.heap[w4.heap.size]? = some (.cells #[.int .i64 n, .slice p l.length cap, .int .i64 c, .int .i64 a, .int .i64 r.s, .int .i64 r.v, .int .i64 r.rto, .int .i64 r.fails, .bool r.has] 28)) ∧ True) ⟨Lib.hid (by (repeat (first | (with_reducible exact Below.refl _ _) | (with_reducible refine bel_set (by first | omega | (simp; done) | (simp; omega)) ?_) | (with_reducible refine bel_alloc (by first | omega | (simp; done) | (simp; omega)) ?_) | (with_reducible refine bel_drew ?_) | (with_reducible refine bel_drewN ?_ _))); first | done | fail "left"), Lib.hid (by first | (simp [World.setCell, Array.getElem?_modify, A1.out]; done) | (simp [World.setCell, Array.getElem?_modify, A1.out]; omega) | ((repeat (first | (with_reducible exact A1.out) | (with_reducible exact heap_new _ _ _ (by first | rfl | (simp; done))) | (with_reducible refine keepa ?_ _) | (simp [World.setCell, Array.getElem?_modify, A1.out]; done))); done)), trivial⟩ ?_
      clear c_A1 f_A1
      rintro w5 ⟨N, A10, -⟩
      have c_A10 := cell_of_block A10.out
      have f_A10 := frozen_of_block A10.out
      replace A1 := Lib.hid (keepb A1.out N.out)
      replace c_A1 := cell_of_block A1.out
      replace f_A1 := frozen_of_block A1.out
      replace FS := fls_keep FS N
      replace BA := Lib.hid (chain BA.out N.out)
      clear N
      go_upto_region 10 with fail
      refine gen_wp (fun w6 => Hid (Below w5.heap.size w5 w6) ∧ Hid (w6.heap[w5.heap.size]? = some (.cells #[.int .i64 n, .slice p l.length cap, .int .i64 c, .int .i64 a, .int .i64 r.s, .int .i64 r.v, .int .i64 r.rto, .int .i64 r.fails, .bool r.has] 28)) ∧ True) ⟨Lib.hid (by (repeat (first | (with_reducible exact Below.refl _ _) | (with_reducible refine bel_set (by first | omega | (simp; done) | (simp; omega)) ?_) | (with_reducible refine bel_alloc (by first | omega | (simp; done) | (simp; omega)) ?_) | (with_reducible refine bel_drew ?_) | (with_reducible refine bel_drewN ?_ _))); first | done | fail "left"), Lib.hid (by first | (simp [World.setCell, Array.getElem?_modify, A1.out, A10.out]; done) | (simp [World.setCell, Array.getElem?_modify, A1.out, A10.out]; omega) | ((repeat (first | (with_reducible exact A1.out) | (with_reducible exact A10.out) | (with_reducible exact heap_new _ _ _ (by first | rfl | (simp; done))) | (with_reducible refine keepa ?_ _) | (simp [World.setCell, Array.getElem?_modify, A1.out, A10.out]; done))); done)), trivial⟩ ?_
      clear c_A1 f_A1 c_A10 f_A10
      rintro w6 ⟨N, A11, -⟩
      have c_A11 := cell_of_block A11.out
      have f_A11 := frozen_of_block A11.out
      have hz4 := block_lt A1.out
      have hz5 := block_lt A10.out
      replace A1 := Lib.hid (keepb A1.out N.out)
      replace c_A1 := cell_of_block A1.out
      replace f_A1 := frozen_of_block A1.out
      replace A10 := Lib.hid (keepb A10.out N.out)
      replace c_A10 := cell_of_block A10.out
      replace f_A10 := frozen_of_block A10.out
      replace FS := fls_keep FS N
      replace BA := Lib.hid (chain BA.out N.out)
      clear N
      go_wp2_with fail
      go_loopw [10] (fun i wr => ∃ (k : Nat) (n' : Int) (l' : List Fl) (c' a' : Int) (r' : Rt) (p1 p2 : Option Addr) (cap1 cap2 : Nat), k ≤ la.length ∧ i = .int .i64 k ∧ wr.heap[w4.heap.size]? = some (.cells #[.int .i64 n', .slice p1 l'.length cap1, .int .i64 c', .int .i64 a', .int .i64 r'.s, .int .i64 r'.v, .int .i64 r'.rto, .int .i64 r'.fails, .bool r'.has] 28) ∧ wr.heap[w5.heap.size]? = some (.cells #[.int .i64 n', .slice p2 l'.length cap2, .int .i64 c', .int .i64 a', .int .i64 r'.s, .int .i64 r'.v, .int .i64 r'.rto, .int .i64 r'.fails, .bool r'.has] 28) ∧
        Fls wr (.slice p1 l'.length cap1) l' ∧ Fls wr (.slice p2 l'.length cap2) l' ∧ chRight ⟨⟨n', l', c', a'⟩, r'⟩ = true ∧ Below w.heap.size w wr) (fun i _ => la.length - (intOf i).toNat)
      case atStart => exact ⟨0, n, l, c, a, r, p, p, cap, cap, by omega, rfl, A10.out, A11.out, FS.out, FS.out, HR.out, BA.out⟩
      case round =>
        obtain ⟨k, n', l', c', a', r', p1, p2, cap1, cap2, hk, rfl, h10, h11, hf1, hf2, hS, hwb⟩ := hrel
        clear c_A1 f_A1 c_A10 f_A10 c_A11 f_A11 A1 A10 A11 FS BA HR
        have A10 := Lib.hid h10
        have A11 := Lib.hid h11
        have F1 := Lib.hid hf1
        have F2 := Lib.hid hf2
        have HR := Lib.hid hS
        have HP := Lib.hid (rightSd (chan_right hS).1)
        have BA := Lib.hid hwb
        clear h10 h11 hf1 hf2 hS hwb
        have c_A10 := cell_of_block A10.out
        have f_A10 := frozen_of_block A10.out
        have c_A11 := cell_of_block A11.out
        have f_A11 := frozen_of_block A11.out
        have hl8 : l'.length ≤ 8 := HP.out.len
        by_cases hlt : k < la.length
        · obtain ⟨ab, ao', rfl, _⟩ := HA.out.open (by omega)
          obtain ⟨x, hx⟩ : ∃ x, x = la[k] := ⟨_, rfl⟩
          obtain ⟨x0, x1, x2, x3, x4, x5, x6, x7⟩ := acs_row HA BA.out k hlt x hx
          have t1 : (k : Int) < (la.length : Int) := by omega
          have t2 : (0 : Int) ≤ (k : Int) := by omega
          have HSZ := Lib.hid (block_lt A11.out)
          have HXx := Lib.hid hx
          have HXn := Lib.hid (show x.n ≤ 9223372036854775807 from (wf_i64 (HWf.out x (by rw [hx]; exact List.getElem_mem hlt))).2)
          clear hx
          by_cases hbad : x.now < 0 ∨ 1099511627776 < x.now
          · have HBad := Lib.hid hbad
            clear hbad
            go_wp2_with fail
            all_goals first
              | (go_ret; exact ⟨rfl, BA.out⟩)
              | (exfalso; have := HBad.out; omega)
          obtain ⟨f1, f2⟩ : 0 ≤ x.now ∧ x.now ≤ 1099511627776 := by omega
          clear hbad
          have hs4 := block_lt A10.out
          have hs5 := block_lt A11.out
          have F1r := F1
          have BR0 := Lib.hid (Below.refl wr.heap.size wr)
          go_upto_region 15 with fail
          go_cut [11] (fun s13 wx => ∃ (p3 : Option Addr) (cap3 : Nat), s13 = .slice p3 l'.length cap3 ∧ Own 40 7 wr.heap.size wx (.slice p3 l'.length cap3) l'.length (flat Fl.cells l') ∧ Below wr.heap.size wr wx)
          case first =>
            cases p1 with
            | none =>
              have h0 : l' = [] := by
                cases l' with
                | nil => rfl
                | cons a l => obtain ⟨b, o, h, _⟩ := F1.out.open (by simp); cases h
              subst h0
              have hap := append_nil_fl
              simp only [List.length_nil] at c_A10
              go_wp2_with fail
              go_meet
              case rel => exact ⟨some ⟨wr.heap.size, 0, none⟩, 0, rfl, own_empty _ _ _ _ _ rfl (Nat.le_refl _), (Below.refl _ _).alloc (Nat.le_refl _) _⟩
            | some ad =>
              have HC := Lib.hid (Sl.news (by decide) (F1.out.keep (w' := wr.alloc (.cells #[] 40)) (by decide) ((Below.refl _ _).alloc (Nat.le_refl _) _)))
              go_wp2_with (at_builtin; refine wpList_app rfl (.tmp 76) (.tmp 79) 22 rfl wr.heap.size 40 (.agg #[.int .i64 0, .int .i64 0, .int .i64 0, .int .i64 0, .int .i64 0, .int .i64 0, .int .i64 0]) 7 56 Try.underlying22 (by kernel_rfl) rfl (by decide) wr.heap.size wr (Lib.hid ((Below.refl _ _).alloc (Nat.le_refl _) _)) (Nat.le_refl _) (Lib.hid (own_empty _ _ _ _ _ rfl (Nat.le_refl _))) rfl ad l'.length cap1 rfl (flat Fl.cells l') (flat_length fl_seven l') HC (fl_cells_one l') (by omega) (by omega) (by simp) ?_; intro p3 cap3 wz hc3 HO3 HB3 HK3; simp only [Nat.zero_add, List.nil_append] at HO3 hc3)
              go_meet
              case rel => exact ⟨p3, cap3, by simp, by simpa using HO3.out, HB3.out⟩
          case rest =>
            obtain ⟨p3, cap3, rfl, ho3, hb3⟩ := hcut
            obtain ⟨wb, hwb⟩ : ∃ wb : World, wb = wc := ⟨_, rfl⟩
            subst hwb
            have O3 := Lib.hid ho3
            have B3 := Lib.hid hb3
            clear ho3 hb3 x0 x1 x2 x3 x4 x5 x6 x7
            replace A10 := Lib.hid (keepb A10.out B3.out)
            replace c_A10 := cell_of_block A10.out
            replace f_A10 := frozen_of_block A10.out
            replace A11 := Lib.hid (keepb A11.out B3.out)
            replace c_A11 := cell_of_block A11.out
            replace f_A11 := frozen_of_block A11.out
            replace F1 := fls_keep F1 B3
            replace F2 := fls_keep F2 B3
            have BR := Lib.hid (chain BR0.out B3.out)
            replace BA := Lib.hid (chain BA.out B3.out)
            obtain ⟨x0, x1, x2, x3, x4, x5, x6, x7⟩ := acs_row HA BA.out k hlt x HXx.out
            clear x0 x1 x2 x3 x4 x5 x6 x7
            have HB3 := Lib.hid (show ∀ g, (Value.slice p3 l'.length cap3).ownBlock = some g → g < wb.heap.size from O3.out.lt)
            go_upto_region 16 with fail
            have s4 := block_lt A10.out
            have s5 := block_lt A11.out
            obtain ⟨x0, x1, x2, x3, x4, x5, x6, x7⟩ := acs_row HA BA.out k hlt x HXx.out
            go_cut [12, 13, 14] (fun s14 s15 s16 wx => ∃ (S : Sd) (R : Rt) (q1 q2 : Option Addr) (cq1 cq2 g1 g2 : Nat), s14 = .pointer (some ⟨g1, 0, none⟩) ∧ s15 = .pointer (some ⟨g2, 0, none⟩) ∧ s16 = .bool true ∧ chRight ⟨S, R⟩ = true ∧
              wx.heap[g1]? = some (.cells #[.int .i64 S.next, .slice q1 S.fl.length cq1, .int .i64 S.cwnd, .int .i64 S.acc, .int .i64 R.s, .int .i64 R.v, .int .i64 R.rto, .int .i64 R.fails, .bool R.has] 28) ∧ wx.heap[g2]? = some (.cells #[.int .i64 S.next, .slice q2 S.fl.length cq2, .int .i64 S.cwnd, .int .i64 S.acc, .int .i64 R.s, .int .i64 R.v, .int .i64 R.rto, .int .i64 R.fails, .bool R.has] 28) ∧
              Own 40 7 wb.heap.size wx (.slice q1 S.fl.length cq1) S.fl.length (flat Fl.cells S.fl) ∧ Own 40 7 wb.heap.size wx (.slice q2 S.fl.length cq2) S.fl.length (flat Fl.cells S.fl) ∧ Below wb.heap.size wb wx ∧ wb.heap.size ≤ g1 ∧ wb.heap.size ≤ g2)
            case first =>
              have HSt := Lib.hid (fun W (B : Below wb.heap.size wb W) => step12_any n' (.slice p1 l'.length cap1) (.slice p2 l'.length cap2) c' a' r' l' x W (F1.out.keep (by decide) B) (F2.out.keep (by decide) B) HR.out f1 f2 HXn.out)
              have HAb := Lib.hid (show Acs wb (.slice (some ⟨ab, ao', none⟩) la.length capa) la from Sl.keep (by decide) HA.out BA.out)
              refine PS12_reg ab ao' k capa la n' c' a' r' l' p1 p2 cap1 cap2 x wb _ _ _ _ _ _ _ _ _ _ _ _ _ _ _ _ _ _ _ _ _ _ _ _ _ _ _ _ _ _ _ _ _ _ _ _ _ _ _ _ _ _ _ _ _ _ _ _ _ _ _ _ _ _ _ _ _ _ _ _ _ _ _ _ _ _ _ _ _ _ _ _ _ _ _ _ _ _ _ _ _ _ _ _ _ _ _ _ _ _ _ _ _ _ _ _ _ _ _ _ _ _ _ _ _ _ _ _ _ _ _ _ _ _ _ _ _ _ _ _ _ _ _ _ _ _ A10 A11 HAb hlt hm t1 t2 HXx HSt ?_
              intro S R q1 q2 cq1 cq2 g0 g1 wx hB hFP hNB hg0 hz0 hg1 hz1
              have HB := Lib.hid hB
              have HFP := Lib.hid hFP
              have HZ0 := Lib.hid hz0
              have HZ1 := Lib.hid hz1
              clear hB hFP hNB hz0 hz1
              go_wp2_with fail
              go_meet
              case rel => exact ⟨S, R, q1, q2, cq1, cq2, g0, g1, rfl, rfl, rfl, HFP.out.1, HZ0.out, HZ1.out, HFP.out.2.1, HFP.out.2.2, HB.out, hg0, hg1⟩
            case rest =>
              obtain ⟨S, R, q1, q2, cq1, cq2, g1, g2, rfl, rfl, rfl, hS, hg1, hg2, oq1, oq2, hbb, hz1, hz2⟩ := hcut
              have HRs := Lib.hid hS
              have HPs := Lib.hid (rightSd (chan_right hS).1)
              have G1 := Lib.hid hg1
              have G2 := Lib.hid hg2
              have OQ1 := Lib.hid oq1
              have OQ2 := Lib.hid oq2
              have BB := Lib.hid hbb
              clear hS hg1 hg2 oq1 oq2 hbb x0 x1 x2 x3 x4 x5 x6 x7
              replace A10 := Lib.hid (keepb A10.out BB.out)
              replace c_A10 := cell_of_block A10.out
              replace f_A10 := frozen_of_block A10.out
              replace A11 := Lib.hid (keepb A11.out BB.out)
              replace c_A11 := cell_of_block A11.out
              replace f_A11 := frozen_of_block A11.out
              replace F1 := fls_keep F1 BB
              replace F2 := fls_keep F2 BB
              replace BR := Lib.hid (chain BR.out BB.out)
              replace BA := Lib.hid (chain BA.out BB.out)
              replace O3 := Lib.hid (O3.out.keep BB.out)
              have HQ1 := Lib.hid OQ1.out.lt
              have HQ2 := Lib.hid OQ2.out.lt
              have HO3 := Lib.hid O3.out.lt
              have szr : wr.heap.size ≤ wc.heap.size := BR.out.size
              clear BB
              have c_G1 := cell_of_block G1.out
              have f_G1 := frozen_of_block G1.out
              have c_G2 := cell_of_block G2.out
              have f_G2 := frozen_of_block G2.out
              have s4 := block_lt A10.out
              have s5 := block_lt A11.out
              have sg1 := block_lt G1.out
              have sg2 := block_lt G2.out
              go_upto_region 18 with fail
              refine gen_wp (fun w7 => Hid (Below wc.heap.size wc w7) ∧ Hid (w7.heap[wc.heap.size]? = some (.cells #[.int .i64 n', .slice p1 l'.length cap1, .int .i64 c', .int .i64 a', .int .i64 r'.s, .int .i64 r'.v, .int .i64 r'.rto, .int .i64 r'.fails, .bool r'.has] 28)) ∧ True) ⟨Lib.hid (by (repeat (first | (with_reducible exact Below.refl _ _) | (with_reducible refine bel_set (by first | omega | (simp; done) | (simp; omega)) ?_) | (with_reducible refine bel_alloc (by first | omega | (simp; done) | (simp; omega)) ?_) | (with_reducible refine bel_drew ?_) | (with_reducible refine bel_drewN ?_ _))); first | done | fail "left"), Lib.hid (by first | (simp [World.setCell, Array.getElem?_modify, A10.out, A11.out, G1.out, G2.out]; done) | (simp [World.setCell, Array.getElem?_modify, A10.out, A11.out, G1.out, G2.out]; omega) | ((repeat (first | (with_reducible exact A10.out) | (with_reducible exact A11.out) | (with_reducible exact G1.out) | (with_reducible exact G2.out) | (with_reducible exact heap_new _ _ _ (by first | rfl | (simp; done))) | (with_reducible refine keepa ?_ _) | (simp [World.setCell, Array.getElem?_modify, A10.out, A11.out, G1.out, G2.out]; done))); done)), trivial⟩ ?_
              clear c_A10 f_A10 c_A11 f_A11 c_G1 f_G1 c_G2 f_G2
              rintro w7 ⟨N, A17, -⟩
              have c_A17 := cell_of_block A17.out
              have f_A17 := frozen_of_block A17.out
              replace A10 := Lib.hid (keepb A10.out N.out)
              replace c_A10 := cell_of_block A10.out
              replace f_A10 := frozen_of_block A10.out
              replace A11 := Lib.hid (keepb A11.out N.out)
              replace c_A11 := cell_of_block A11.out
              replace f_A11 := frozen_of_block A11.out
              replace G1 := Lib.hid (keepb G1.out N.out)
              replace c_G1 := cell_of_block G1.out
              replace f_G1 := frozen_of_block G1.out
              replace G2 := Lib.hid (keepb G2.out N.out)
              replace c_G2 := cell_of_block G2.out
              replace f_G2 := frozen_of_block G2.out
              replace F1 := fls_keep F1 N
              replace F2 := fls_keep F2 N
              replace BR := Lib.hid (chain BR.out N.out)
              replace BA := Lib.hid (chain BA.out N.out)
              replace O3 := Lib.hid (O3.out.keep N.out)
              replace OQ1 := Lib.hid (OQ1.out.keep N.out)
              replace OQ2 := Lib.hid (OQ2.out.keep N.out)
              have HN := Lib.hid N.out.size
              clear N
              have szc : wc.heap.size < w7.heap.size := block_lt A17.out
              have k1 : w4.heap.size ≠ wc.heap.size := by omega
              have k2 : w5.heap.size ≠ wc.heap.size := by omega
              have k3 : g1 ≠ wc.heap.size := by omega
              have k4 : g2 ≠ wc.heap.size := by omega
              go_upto_region 19 with fail
              refine gen_wp (fun w8 => Hid (w8.heap[wc.heap.size]? = some (.cells #[.int .i64 n', .slice p3 l'.length cap3, .int .i64 c', .int .i64 a', .int .i64 r'.s, .int .i64 r'.v, .int .i64 r'.rto, .int .i64 r'.fails, .bool r'.has] 28)) ∧ Hid (w8.heap[w4.heap.size]? = some (.cells #[.int .i64 n', .slice p1 l'.length cap1, .int .i64 c', .int .i64 a', .int .i64 r'.s, .int .i64 r'.v, .int .i64 r'.rto, .int .i64 r'.fails, .bool r'.has] 28)) ∧ Hid (w8.heap[g1]? = some (.cells #[.int .i64 S.next, .slice q1 S.fl.length cq1, .int .i64 S.cwnd, .int .i64 S.acc, .int .i64 R.s, .int .i64 R.v, .int .i64 R.rto, .int .i64 R.fails, .bool R.has] 28)) ∧ Hid (w8.heap[g2]? = some (.cells #[.int .i64 S.next, .slice q2 S.fl.length cq2, .int .i64 S.cwnd, .int .i64 S.acc, .int .i64 R.s, .int .i64 R.v, .int .i64 R.rto, .int .i64 R.fails, .bool R.has] 28)) ∧ Hid (w8.heap[w5.heap.size]? = some (.cells #[.int .i64 n', .slice p2 l'.length cap2, .int .i64 c', .int .i64 a', .int .i64 r'.s, .int .i64 r'.v, .int .i64 r'.rto, .int .i64 r'.fails, .bool r'.has] 28)) ∧ Hid (Below w.heap.size w w8) ∧ Hid (Below wr.heap.size wr w8) ∧ Hid (Own 40 7 wr.heap.size w8 (.slice p3 l'.length cap3) l'.length (flat Fl.cells l')) ∧ Hid (Own 40 7 wb.heap.size w8 (.slice q1 S.fl.length cq1) S.fl.length (flat Fl.cells S.fl)) ∧ Hid (Own 40 7 wb.heap.size w8 (.slice q2 S.fl.length cq2) S.fl.length (flat Fl.cells S.fl)) ∧ True) ⟨Lib.hid (by first | (simp [World.setCell, Array.getElem?_modify, A10.out, A11.out, G1.out, G2.out, A17.out, k1, k1.symm, k2, k2.symm, k3, k3.symm, k4, k4.symm]; done) | (simp [World.setCell, Array.getElem?_modify, A10.out, A11.out, G1.out, G2.out, A17.out, k1, k1.symm, k2, k2.symm, k3, k3.symm, k4, k4.symm]; omega) | ((repeat (first | (with_reducible exact A10.out) | (with_reducible exact A11.out) | (with_reducible exact G1.out) | (with_reducible exact G2.out) | (with_reducible exact A17.out) | (with_reducible exact heap_new _ _ _ (by first | rfl | (simp; done))) | (with_reducible refine keepa ?_ _) | (simp [World.setCell, Array.getElem?_modify, A10.out, A11.out, G1.out, G2.out, A17.out, k1, k1.symm, k2, k2.symm, k3, k3.symm, k4, k4.symm]; done))); done)), Lib.hid (by first | (simp [World.setCell, Array.getElem?_modify, A10.out, A11.out, G1.out, G2.out, A17.out, k1, k1.symm, k2, k2.symm, k3, k3.symm, k4, k4.symm]; done) | (simp [World.setCell, Array.getElem?_modify, A10.out, A11.out, G1.out, G2.out, A17.out, k1, k1.symm, k2, k2.symm, k3, k3.symm, k4, k4.symm]; omega) | ((repeat (first | (with_reducible exact A10.out) | (with_reducible exact A11.out) | (with_reducible exact G1.out) | (with_reducible exact G2.out) | (with_reducible exact A17.out) | (with_reducible exact heap_new _ _ _ (by first | rfl | (simp; done))) | (with_reducible refine keepa ?_ _) | (simp [World.setCell, Array.getElem?_modify, A10.out, A11.out, G1.out, G2.out, A17.out, k1, k1.symm, k2, k2.symm, k3, k3.symm, k4, k4.symm]; done))); done)), Lib.hid (by first | (simp [World.setCell, Array.getElem?_modify, A10.out, A11.out, G1.out, G2.out, A17.out, k1, k1.symm, k2, k2.symm, k3, k3.symm, k4, k4.symm]; done) | (simp [World.setCell, Array.getElem?_modify, A10.out, A11.out, G1.out, G2.out, A17.out, k1, k1.symm, k2, k2.symm, k3, k3.symm, k4, k4.symm]; omega) | ((repeat (first | (with_reducible exact A10.out) | (with_reducible exact A11.out) | (with_reducible exact G1.out) | (with_reducible exact G2.out) | (with_reducible exact A17.out) | (with_reducible exact heap_new _ _ _ (by first | rfl | (simp; done))) | (with_reducible refine keepa ?_ _) | (simp [World.setCell, Array.getElem?_modify, A10.out, A11.out, G1.out, G2.out, A17.out, k1, k1.symm, k2, k2.symm, k3, k3.symm, k4, k4.symm]; done))); done)), Lib.hid (by first | (simp [World.setCell, Array.getElem?_modify, A10.out, A11.out, G1.out, G2.out, A17.out, k1, k1.symm, k2, k2.symm, k3, k3.symm, k4, k4.symm]; done) | (simp [World.setCell, Array.getElem?_modify, A10.out, A11.out, G1.out, G2.out, A17.out, k1, k1.symm, k2, k2.symm, k3, k3.symm, k4, k4.symm]; omega) | ((repeat (first | (with_reducible exact A10.out) | (with_reducible exact A11.out) | (with_reducible exact G1.out) | (with_reducible exact G2.out) | (with_reducible exact A17.out) | (with_reducible exact heap_new _ _ _ (by first | rfl | (simp; done))) | (with_reducible refine keepa ?_ _) | (simp [World.setCell, Array.getElem?_modify, A10.out, A11.out, G1.out, G2.out, A17.out, k1, k1.symm, k2, k2.symm, k3, k3.symm, k4, k4.symm]; done))); done)), Lib.hid (by first | (simp [World.setCell, Array.getElem?_modify, A10.out, A11.out, G1.out, G2.out, A17.out, k1, k1.symm, k2, k2.symm, k3, k3.symm, k4, k4.symm]; done) | (simp [World.setCell, Array.getElem?_modify, A10.out, A11.out, G1.out, G2.out, A17.out, k1, k1.symm, k2, k2.symm, k3, k3.symm, k4, k4.symm]; omega) | ((repeat (first | (with_reducible exact A10.out) | (with_reducible exact A11.out) | (with_reducible exact G1.out) | (with_reducible exact G2.out) | (with_reducible exact A17.out) | (with_reducible exact heap_new _ _ _ (by first | rfl | (simp; done))) | (with_reducible refine keepa ?_ _) | (simp [World.setCell, Array.getElem?_modify, A10.out, A11.out, G1.out, G2.out, A17.out, k1, k1.symm, k2, k2.symm, k3, k3.symm, k4, k4.symm]; done))); done)), Lib.hid (by have hbsz := Below.size (BA.out); (repeat (first | (with_reducible exact BA.out) | (with_reducible refine bel_set (by first | omega | (simp; done) | (simp; omega)) ?_) | (with_reducible refine bel_alloc (by first | omega | (simp; done) | (simp; omega)) ?_) | (with_reducible refine bel_drew ?_) | (with_reducible refine bel_drewN ?_ _))); first | done | fail "left"), Lib.hid (by have hbsz := Below.size (BR.out); (repeat (first | (with_reducible exact BR.out) | (with_reducible refine bel_set (by first | omega | (simp; done) | (simp; omega)) ?_) | (with_reducible refine bel_alloc (by first | omega | (simp; done) | (simp; omega)) ?_) | (with_reducible refine bel_drew ?_) | (with_reducible refine bel_drewN ?_ _))); first | done | fail "left"), Lib.hid (O3.out.set_apart (fun g hg => by have := HO3.out g hg; omega) _ _), Lib.hid (OQ1.out.set_apart (fun g hg => by have := HQ1.out g hg; omega) _ _), Lib.hid (OQ2.out.set_apart (fun g hg => by have := HQ2.out g hg; omega) _ _), trivial⟩ ?_
              clear c_A10 f_A10 c_A11 f_A11 c_G1 f_G1 c_G2 f_G2 c_A17 f_A17
              rintro w8 ⟨A17, A10, G1, G2, A11, BA8, BR8, O38, OQ18, OQ28, -⟩
              have c_A17 := cell_of_block A17.out
              have f_A17 := frozen_of_block A17.out
              have c_A10 := cell_of_block A10.out
              have f_A10 := frozen_of_block A10.out
              have c_G1 := cell_of_block G1.out
              have f_G1 := frozen_of_block G1.out
              have c_G2 := cell_of_block G2.out
              have f_G2 := frozen_of_block G2.out
              have c_A11 := cell_of_block A11.out
              have f_A11 := frozen_of_block A11.out
              have F18 := Lib.hid (F1r.out.keep (by decide) BR8.out)
              obtain ⟨rm, hrm⟩ : ∃ rm, sdRoom S = rm := ⟨_, rfl⟩
              have HRm := Lib.hid hrm
              have hSl : S.fl.length ≤ 8 := HPs.out.len
              have HSs := Lib.hid (chan_right HRs.out).1
              have HC1 := Lib.hid (fun W (B : Below w8.heap.size w8 W) => qcsame_any n' _ c' a' r' l' n' _ c' a' r' l' W (O38.out.sl.keep (by decide) B) (F18.out.keep (by decide) B))
              rw [show decide (Ch.mk ⟨n', l', c', a'⟩ r' = Ch.mk ⟨n', l', c', a'⟩ r') = true by simp] at HC1
              have HC2 := Lib.hid (fun W (B : Below w8.heap.size w8 W) => qcsame_any S.next _ S.cwnd S.acc R S.fl S.next _ S.cwnd S.acc R S.fl W (OQ18.out.sl.keep (by decide) B) (OQ28.out.sl.keep (by decide) B))
              rw [show decide (Ch.mk ⟨S.next, S.fl, S.cwnd, S.acc⟩ R = Ch.mk ⟨S.next, S.fl, S.cwnd, S.acc⟩ R) = true by simp] at HC2
              have HC3 := Lib.hid (fun W (B : Below w8.heap.size w8 W) => croom_any S.next _ S.cwnd S.acc R S.fl rm W (OQ18.out.sl.keep (by decide) B) HSs.out HRm.out)
              have HC4 := Lib.hid (fun W (B : Below w8.heap.size w8 W) => qcroom_any S.next _ S.cwnd S.acc R S.fl rm W (OQ28.out.sl.keep (by decide) B) HSs.out HRm.out)
              obtain ⟨ib, hib⟩ : ∃ ib, decide (S.fl = []) = ib := ⟨_, rfl⟩
              have HC5 := Lib.hid (fun W (B : Below w8.heap.size w8 W) => cidle_any S.next _ S.cwnd S.acc R S.fl W (OQ18.out.sl.keep (by decide) B))
              have HC6 := Lib.hid (fun W (B : Below w8.heap.size w8 W) => qcidle_any S.next _ S.cwnd S.acc R S.fl W (OQ28.out.sl.keep (by decide) B))
              rw [hib] at HC5 HC6
              have BZ := Lib.hid (Below.refl w8.heap.size w8)
              have xr := bne_self_eq_false rm
              have xi := bne_self_eq_false ib
              clear hrm hib
              obtain ⟨x0, x1, x2, x3, x4, x5, x6, x7⟩ := acs_row HA BA8.out k hlt x HXx.out
              go_region_held3 (fun w' => w'.cell? ⟨wc.heap.size, 0, none⟩ = some (.int .i64 n') ∧ w'.cell? ⟨wc.heap.size, 1, none⟩ = some (.slice p3 l'.length cap3) ∧ w'.cell? ⟨wc.heap.size, 2, none⟩ = some (.int .i64 c') ∧ w'.cell? ⟨wc.heap.size, 3, none⟩ = some (.int .i64 a') ∧ w'.cell? ⟨wc.heap.size, 4, none⟩ = some (.int .i64 r'.s) ∧ w'.cell? ⟨wc.heap.size, 5, none⟩ = some (.int .i64 r'.v) ∧ w'.cell? ⟨wc.heap.size, 6, none⟩ = some (.int .i64 r'.rto) ∧ w'.cell? ⟨wc.heap.size, 7, none⟩ = some (.int .i64 r'.fails) ∧ w'.cell? ⟨wc.heap.size, 8, none⟩ = some (.bool r'.has) ∧ w'.cell? ⟨w4.heap.size, 0, none⟩ = some (.int .i64 n') ∧ w'.cell? ⟨w4.heap.size, 1, none⟩ = some (.slice p1 l'.length cap1) ∧ w'.cell? ⟨w4.heap.size, 2, none⟩ = some (.int .i64 c') ∧ w'.cell? ⟨w4.heap.size, 3, none⟩ = some (.int .i64 a') ∧ w'.cell? ⟨w4.heap.size, 4, none⟩ = some (.int .i64 r'.s) ∧ w'.cell? ⟨w4.heap.size, 5, none⟩ = some (.int .i64 r'.v) ∧ w'.cell? ⟨w4.heap.size, 6, none⟩ = some (.int .i64 r'.rto) ∧ w'.cell? ⟨w4.heap.size, 7, none⟩ = some (.int .i64 r'.fails) ∧ w'.cell? ⟨w4.heap.size, 8, none⟩ = some (.bool r'.has) ∧ w'.cell? ⟨g1, 0, none⟩ = some (.int .i64 S.next) ∧ w'.cell? ⟨g1, 1, none⟩ = some (.slice q1 S.fl.length cq1) ∧ w'.cell? ⟨g1, 2, none⟩ = some (.int .i64 S.cwnd) ∧ w'.cell? ⟨g1, 3, none⟩ = some (.int .i64 S.acc) ∧ w'.cell? ⟨g1, 4, none⟩ = some (.int .i64 R.s) ∧ w'.cell? ⟨g1, 5, none⟩ = some (.int .i64 R.v) ∧ w'.cell? ⟨g1, 6, none⟩ = some (.int .i64 R.rto) ∧ w'.cell? ⟨g1, 7, none⟩ = some (.int .i64 R.fails) ∧ w'.cell? ⟨g1, 8, none⟩ = some (.bool R.has) ∧ w'.cell? ⟨g2, 0, none⟩ = some (.int .i64 S.next) ∧ w'.cell? ⟨g2, 1, none⟩ = some (.slice q2 S.fl.length cq2) ∧ w'.cell? ⟨g2, 2, none⟩ = some (.int .i64 S.cwnd) ∧ w'.cell? ⟨g2, 3, none⟩ = some (.int .i64 S.acc) ∧ w'.cell? ⟨g2, 4, none⟩ = some (.int .i64 R.s) ∧ w'.cell? ⟨g2, 5, none⟩ = some (.int .i64 R.v) ∧ w'.cell? ⟨g2, 6, none⟩ = some (.int .i64 R.rto) ∧ w'.cell? ⟨g2, 7, none⟩ = some (.int .i64 R.fails) ∧ w'.cell? ⟨g2, 8, none⟩ = some (.bool R.has)) (go_keep)
                ((first
                | (go_at_call 19; with_reducible refine (HC1.out _ (bel_drew BZ.out)).mono ?_; rintro e wa ⟨rfl, Ba⟩; replace BZ := Lib.hid (chain (w := w8.drew) (bel_drew BZ.out) Ba.out); have cA17 := cell_of_block (keepb A17.out BZ.out); have cA10 := cell_of_block (keepb A10.out BZ.out); have cG1 := cell_of_block (keepb G1.out BZ.out); have cG2 := cell_of_block (keepb G2.out BZ.out))
                | (go_at_call 19; with_reducible refine (HC2.out _ BZ.out).mono ?_; rintro e wb1 ⟨rfl, Bb⟩; replace BZ := Lib.hid (chain BZ.out Bb.out); have cA17 := cell_of_block (keepb A17.out BZ.out); have cA10 := cell_of_block (keepb A10.out BZ.out); have cG1 := cell_of_block (keepb G1.out BZ.out); have cG2 := cell_of_block (keepb G2.out BZ.out))
                | (go_at_call 15; with_reducible refine (HC3.out _ BZ.out).mono ?_; rintro e wc1 ⟨rfl, Bc⟩; replace BZ := Lib.hid (chain BZ.out Bc.out); have cA17 := cell_of_block (keepb A17.out BZ.out); have cA10 := cell_of_block (keepb A10.out BZ.out); have cG1 := cell_of_block (keepb G1.out BZ.out); have cG2 := cell_of_block (keepb G2.out BZ.out))
                | (go_at_call 21; with_reducible refine (HC4.out _ BZ.out).mono ?_; rintro e wd1 ⟨rfl, Bd⟩; replace BZ := Lib.hid (chain BZ.out Bd.out); have cA17 := cell_of_block (keepb A17.out BZ.out); have cA10 := cell_of_block (keepb A10.out BZ.out); have cG1 := cell_of_block (keepb G1.out BZ.out); have cG2 := cell_of_block (keepb G2.out BZ.out))
                | (go_at_call 13; with_reducible refine (HC5.out _ BZ.out).mono ?_; rintro e we1 ⟨rfl, Be⟩; replace BZ := Lib.hid (chain BZ.out Be.out); have cA17 := cell_of_block (keepb A17.out BZ.out); have cA10 := cell_of_block (keepb A10.out BZ.out); have cG1 := cell_of_block (keepb G1.out BZ.out); have cG2 := cell_of_block (keepb G2.out BZ.out))
                | (go_at_call 22; with_reducible refine (HC6.out _ BZ.out).mono ?_; rintro e wf1 ⟨rfl, Bf⟩; replace BZ := Lib.hid (chain BZ.out Bf.out); have cA17 := cell_of_block (keepb A17.out BZ.out); have cA10 := cell_of_block (keepb A10.out BZ.out); have cG1 := cell_of_block (keepb G1.out BZ.out); have cG2 := cell_of_block (keepb G2.out BZ.out))))
              have A10z := Lib.hid (keepb A10.out BZ.out)
              have A11z := Lib.hid (keepb A11.out BZ.out)
              have G1z := Lib.hid (keepb G1.out BZ.out)
              have G2z := Lib.hid (keepb G2.out BZ.out)
              have OQ1z := Lib.hid (OQ18.out.keep BZ.out)
              have OQ2z := Lib.hid (OQ28.out.keep BZ.out)
              have BAz := Lib.hid (chain BA8.out BZ.out)
              have c_A10z := cell_of_block A10z.out
              have f_A10z := frozen_of_block A10z.out
              have c_A11z := cell_of_block A11z.out
              have f_A11z := frozen_of_block A11z.out
              have c_G1z := cell_of_block G1z.out
              have f_G1z := frozen_of_block G1z.out
              have c_G2z := cell_of_block G2z.out
              have f_G2z := frozen_of_block G2z.out
              have n1 : w4.heap.size ≠ w5.heap.size := by omega
              have n2 : g1 ≠ w4.heap.size := by omega
              have n3 : g2 ≠ w4.heap.size := by omega
              have n4 : g1 ≠ w5.heap.size := by omega
              have n5 : g2 ≠ w5.heap.size := by omega
              go_wp2_with fail
              go_roundw
              case rel =>
                refine ⟨k + 1, S.next, S.fl, S.cwnd, S.acc, R, q1, q2, cq1, cq2, by omega, by go_num, by simp [World.setCell, Array.getElem?_modify, A10z.out, n1, n1.symm], by simp [World.setCell, Array.getElem?_modify, A11z.out, n1, n1.symm], ?_, ?_, HRs.out, (by have hbsz := Below.size (BAz.out); (repeat (first | (with_reducible exact BAz.out) | (with_reducible refine bel_set (by first | omega | (simp; done) | (simp; omega)) ?_) | (with_reducible refine bel_alloc (by first | omega | (simp; done) | (simp; omega)) ?_) | (with_reducible refine bel_drew ?_) | (with_reducible refine bel_drewN ?_ _))); first | done | fail "left")⟩
                · refine Own.sl (E := 40) (B := wb.heap.size) ?_
                  exact (by (repeat (first | (with_reducible exact OQ1z.out) | (with_reducible refine Own.set ?_ _ _ (by first | omega | (simp; done) | (simp; omega))) | (with_reducible refine Own.alloc ?_ _) | (with_reducible refine Own.drew ?_) | (with_reducible refine Own.drewN ?_ _))); first | done | fail "left")
                · refine Own.sl (E := 40) (B := wb.heap.size) ?_
                  exact (by (repeat (first | (with_reducible exact OQ2z.out) | (with_reducible refine Own.set ?_ _ _ (by first | omega | (simp; done) | (simp; omega))) | (with_reducible refine Own.alloc ?_ _) | (with_reducible refine Own.drew ?_) | (with_reducible refine Own.drewN ?_ _))); first | done | fail "left")
              case measure => go_light; simp [intOf]; omega
        · have hke : k = la.length := by omega
          subst hke
          have t1 : decide ((la.length : Int) < (la.length : Int)) = false := by simp
          go_wp2_with fail
          go_ret
          exact ⟨rfl, BA.out⟩

end Go.Proofs.Yteilgibfmljoeaa.lawChannelTells
namespace Go.Proofs.Yteilgibfmljoeaa.lawChannelTells
open Go.ChangeShapes Go.WideShapes Go.RowKit
set_option linter.unusedVariables false
theorem own : ownKnob Try.prog.godebug = none := by kernel_rfl
theorem laidOut : laidOutB Try.prog = true := by kernel_rfl
set_option maxRecDepth 100000 in
theorem lifted (os : Os) (started : os.Started) (H : Type) (enc : TypeId × Value → H) :
    ReturnsInHanded {} Try.checked os 6 .any (Rows.channelTellsSpec.pre6 enc Try.prog Try.f6 Rows.channelTellsRow.domain false) (Rows.channelTellsSpec.post enc Try.prog Try.f6 false true false false) := by
  refine returnsInHanded_of_change (C := Try.checked) own started (by kernel_rfl) Try.func6
    (ChangeSpec.witness6 (enc := enc) (C := Try.checked) false ⟨#[], #[.agg #[.int .i64 0, .slice none 0 0, .int .i64 0, .int .i64 0, .int .i64 0, .int .i64 0, .int .i64 0, .int .i64 0, .bool false], .slice none 0 0, .agg #[.int .i64 0, .slice none 0 0, .int .i64 0, .int .i64 0, .int .i64 0, .int .i64 0, .int .i64 0, .int .i64 0, .bool false]], []⟩ 8 (by kernel_rfl) (by kernel_rfl) (by kernel_rfl) (by kernel_rfl)) ?_
  intro W base args ds gs before hval0 hW hcnd _
  have hval : ∀ (j : Nat) t v, Try.f6.params[j]? = some t → args[j]? = some v → Value.okWide Try.prog W .any base t v := hval0
  have hW' := hW
  obtain ⟨p, q, hA0, hV, rfl, hfz, hnd⟩ := hW
  have hA : DataW.TrodAll enc Try.prog W 0 (fun _ => true) true Try.f6.params.toList args.toList ds p := hA0
  rw [Try.params6] at hA hval
  obtain ⟨v0, vs0, d0, ds0, p0, q0, hargs, rfl, rfl, h0, r0⟩ := trodAll_cons hA
  obtain ⟨v1, vs1, d1, ds1, p1, q1, rfl, rfl, rfl, h1, r1⟩ := trodAll_cons r0
  obtain ⟨v2, vs2, d2, ds2, p2, q2, rfl, rfl, rfl, h2, r2⟩ := trodAll_cons r1
  obtain ⟨rfl, rfl, rfl⟩ := trodAll_nil r2
  obtain rfl : args = #[v0, v1, v2] := by cases args; simp_all
  obtain ⟨rfl, rfl⟩ := trodVars_none hV
  obtain ⟨n0, u0, c0, b0, q0', z0, rfl, f0, w0⟩ := K.open_ch_arg (hval 0 28 v0 rfl rfl) h0
  have k0 := h0
  have lt0 : ∀ x ∈ p0, x.block < W.heap.size := by obtain ⟨m, hm⟩ := k0; exact DataW.trod_lt m _ _ _ hm
  obtain ⟨a1, len1, cap1, rfl⟩ := okWide_slice Try.underlying45 (hval 1 45 v1 rfl rfl)
  have k1 := h1
  have lt1 : ∀ x ∈ p1, x.block < W.heap.size := by obtain ⟨m, hm⟩ := k1; exact DataW.trod_lt m _ _ _ hm
  obtain ⟨z1, _, w1, y1⟩ : ∃ l : List Nj.Ac, l.length = len1 ∧ Nj.Acs W (.slice a1 len1 cap1) l ∧ ∀ a ∈ l, (Lit.int .i64 a.n).wf = true := by
    obtain ⟨fuel, hf⟩ := h1
    exact K.open_acws hf
  obtain ⟨n2, u2, c2, b2, q2', z2, rfl, f2, w2⟩ := K.open_ch_arg (hval 2 28 v2 rfl rfl) h2
  have k2 := h2
  have lt2 : ∀ x ∈ p2, x.block < W.heap.size := by obtain ⟨m, hm⟩ := k2; exact DataW.trod_lt m _ _ _ hm
  clear hA0 hval0
  refine (walk n0 u0 c0 b0 q0' z0 _ z1 n2 u2 c2 b2 q2' z2 W f0 w0 w1 y1 f2 w2).mono fun e W' ⟨he, bel⟩ => ?_
  subst he
  exact ⟨_, rfl, _, _, _, [], _, [], hW', trodAll_mk1 (shut_bool Try.underlying4 _), (trodAll_cons_mk (Below.trod laidOut (by kernel_rfl) (of_decide_eq_true (by kernel_rfl)) k0 bel lt0) (trodAll_cons_mk (Below.trod laidOut (by kernel_rfl) (of_decide_eq_true (by kernel_rfl)) k1 bel lt1) (trodAll_cons_mk (Below.trod laidOut (by kernel_rfl) (of_decide_eq_true (by kernel_rfl)) k2 bel lt2) trodAll_mk0))), rfl, bel.frame _, fun h => by cases h⟩
theorem over : Rows.channelTellsRow.holds Try.pinned (OpenSpec.ofChange Rows.channelTellsSpec) :=
  OpenClaim.holds_of_wide 6 Try.f6 rfl rfl rfl rfl rfl rfl rfl ⟨rfl, rfl, rfl, rfl, rfl⟩ rfl rfl rfl rfl rfl (by kernel_rfl) Try.func6 (by kernel_rfl)
    (of_decide_eq_true (by kernel_rfl)) (by unfold Func.isWrapper; first | (rw [if_pos (by decide +kernel)]; kernel_rfl) | (rw [if_neg (by decide +kernel)]; exact ⟨rfl, rfl⟩))
    (fun os started H enc _ => lifted os started H enc)
/-- THE STATEMENT -/
theorem proved : Rows.ChannelTellsSaid := over
end Go.Proofs.Yteilgibfmljoeaa.lawChannelTells
#print axioms Go.Proofs.Yteilgibfmljoeaa.lawChannelTells.proved
