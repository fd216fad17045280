/-
  THE STATEMENT 'Rows.ChannelVoidsSaid': nightjarlaw12.ChannelVoids returns true for every input, and its arguments read afterwards as they read before. No condition.
-/
import Derived.Test.YteilgibfmljoeaaChanRead
import Derived.Test.YteilgibfmljoeaaRows
import Derived.ProofKit
import Derived.OpenShut
import Derived.ShutString
import Derived.ChangeOld
import Derived.Below
set_option linter.unusedVariables false
set_option linter.unusedSimpArgs false
namespace Go.Proofs.Yteilgibfmljoeaa.lawChannelVoids
open Go Go.RowKit Nj K

theorem void_again (u now : Int) (f : Fl) : flVoid u (flAgain now f) = flAgain now (flVoid u f) := by
  unfold flVoid flAgain; simp only; split <;> rfl
theorem void_seq (u : Int) (f : Fl) : (flVoid u f).seq = f.seq := by unfold flVoid; split <;> rfl
theorem void_at (u : Int) (f : Fl) : (flVoid u f).at_ = f.at_ := by unfold flVoid; split <;> rfl
theorem void_fl0 (u : Int) : flVoid u fl0 = fl0 := by unfold flVoid fl0; simp
theorem resend_void (u q now : Int) : ∀ l : List Fl, flResend q now (l.map (flVoid u)) = (flResend q now l).map fun x => (x.1.map (flVoid u), flVoid u x.2)
  | [] => rfl
  | f :: l => by
    rw [List.map_cons, flResend, flResend, void_seq]
    split
    · simp [void_again]
    · rw [resend_void u q now l]
      cases flResend q now l <;> simp
theorem sdresend_void (u q now : Int) (s : Sd) : sdResend (sdVoid s u) q now = (sdVoid (sdResend s q now).1 u, flVoid u (sdResend s q now).2.1, (sdResend s q now).2.2) := by
  unfold sdResend
  rw [show (sdVoid s u).fl = s.fl.map (flVoid u) from rfl, resend_void]
  cases flResend q now s.fl with
  | none => simp [void_fl0]
  | some x => rfl
theorem tick_void (u now : Int) : ∀ (l : List Int) (s : Sd), tickL now (sdVoid s u) l = (sdVoid (tickL now s l).1 u, (tickL now s l).2.map (flVoid u))
  | [], s => rfl
  | q :: l, s => by
    rw [tickL, tickL, sdresend_void]
    simp only [tick_void u now l, List.map_cons]
theorem due_void (u now rto : Int) (s : Sd) : sdDue (sdVoid s u) now rto = sdDue s now rto := by
  unfold sdDue
  rw [show (sdVoid s u).fl = s.fl.map (flVoid u) from rfl, List.filter_map, List.map_map]
  congr 1
  · funext f; simp [void_seq]
  · congr 1; funext f; simp [void_at]
theorem ctick_void {s : Sd} {r : Rt} {u now most : Int} {d : Ch} {o : List Fl} (h : chTick ⟨s, r⟩ now most = (d, o)) : ∃ d', chTick ⟨sdVoid s u, r⟩ now most = (d', o.map (flVoid u)) := by
  unfold chTick at h ⊢
  simp only [due_void] at h ⊢
  split at h
  · rename_i hb
    cases h
    refine ⟨⟨sdVoid s u, r⟩, ?_⟩
    rw [if_pos hb]; rfl
  · rename_i hb
    cases h
    refine ⟨⟨sdVoid (tickL now (sdLost s) (List.take most.toNat (sdDue s now r.rto))).1 u, rttBackoff r⟩, ?_⟩
    rw [if_neg hb]
    have e : sdLost (sdVoid s u) = sdVoid (sdLost s) u := rfl
    rw [e, tick_void]

set_option maxRecDepth 100000 in
set_option maxHeartbeats 4000000 in
theorem walk (n : Int) (v : Value) (c a : Int) (r : Rt) (l : List Fl) (user now : Int) (w : World) (h : Fls w v l) (wn : (Lit.int .i64 n).wf = true) (_ : (Lit.int .i64 user).wf = true) (_ : (Lit.int .i64 now).wf = true) :
    Calls Try.prog 8 #[.agg #[.int .i64 n, v, .int .i64 c, .int .i64 a, .int .i64 r.s, .int .i64 r.v, .int .i64 r.rto, .int .i64 r.fails, .bool r.has], .int .i64 user, .int .i64 now] w fun e w' => e = .returned (.bool true) ∧ Below w.heap.size w w' := by
  have FS := Lib.hid h
  obtain ⟨hn0, hn1⟩ := wf_i64 wn
  obtain ⟨p, cap, rfl, hcap⟩ := fls_shape h
  clear h wn
  cases hr : chRight ⟨⟨n, l, c, a⟩, r⟩ with
  | false =>
    have HR := Lib.hid hr
    clear hr
    go_enter Try.func8, Try.ntmps8
    go_upto_region 1 with fail
    refine gen_wp (fun w1 => Hid (w1.heap[w.heap.size]? = some (.cells #[.int .i64 n, .slice p l.length cap, .int .i64 c, .int .i64 a, .int .i64 r.s, .int .i64 r.v, .int .i64 r.rto, .int .i64 r.fails, .bool r.has] 28)) ∧ Hid (Below w.heap.size w w1) ∧ True) ⟨Lib.hid (by first | (simp [World.setCell, Array.getElem?_modify]; done) | (simp [World.setCell, Array.getElem?_modify]; omega) | ((repeat (first | (with_reducible exact heap_new _ _ _ (by first | rfl | (simp; done))) | (with_reducible refine keepa ?_ _) | (simp [World.setCell, Array.getElem?_modify]; done))); done)), Lib.hid (by repeat (first | (with_reducible exact Below.refl _ _) | (with_reducible refine bel_set (by first | omega | (simp; done) | (simp; omega)) ?_) | (with_reducible refine bel_alloc (by first | omega | (simp; done) | (simp; omega)) ?_) | (with_reducible refine bel_drew ?_) | (with_reducible refine bel_drewN ?_ _))), trivial⟩ ?_
    rintro w1 ⟨A1, BA, -⟩
    have c_A1 := cell_of_block A1.out
    have f_A1 := frozen_of_block A1.out
    replace FS := fls_keep FS BA
    go_wp2_with fail
    refine (small12_any _).mono ?_; rintro e w2 ⟨rfl, B2⟩
    replace A1 := Lib.hid (keepb A1.out B2.out)
    replace c_A1 := cell_of_block A1.out
    replace f_A1 := frozen_of_block A1.out
    replace FS := fls_keep FS B2
    replace BA := Lib.hid (chain BA.out B2.out)
    go_wp2_with fail
    refine (cright_at n _ c a r l _ _ FS.out hn1 HR.out).mono ?_; rintro e w3 ⟨rfl, B3⟩
    replace A1 := Lib.hid (keepb A1.out B3.out)
    replace c_A1 := cell_of_block A1.out
    replace f_A1 := frozen_of_block A1.out
    replace FS := fls_keep FS B3
    replace BA := Lib.hid (chain BA.out B3.out)
    clear B2 B3
    go_wp2_with fail
    go_ret
    exact ⟨rfl, BA.out⟩
  | true =>
    have HR := Lib.hid hr
    have HRS := Lib.hid (chan_right hr)
    have HP := Lib.hid (rightSd (chan_right hr).1)
    clear hr
    have hl8 : l.length ≤ 8 := HP.out.len
    by_cases hbad : now < 0 ∨ 1099511627776 < now ∨ user = 0
    · have HBad := Lib.hid hbad
      clear hbad
      go_enter Try.func8, Try.ntmps8
      go_upto_region 1 with fail
      refine gen_wp (fun w1 => Hid (w1.heap[w.heap.size]? = some (.cells #[.int .i64 n, .slice p l.length cap, .int .i64 c, .int .i64 a, .int .i64 r.s, .int .i64 r.v, .int .i64 r.rto, .int .i64 r.fails, .bool r.has] 28)) ∧ Hid (Below w.heap.size w w1) ∧ True) ⟨Lib.hid (by first | (simp [World.setCell, Array.getElem?_modify]; done) | (simp [World.setCell, Array.getElem?_modify]; omega) | ((repeat (first | (with_reducible exact heap_new _ _ _ (by first | rfl | (simp; done))) | (with_reducible refine keepa ?_ _) | (simp [World.setCell, Array.getElem?_modify]; done))); done)), Lib.hid (by repeat (first | (with_reducible exact Below.refl _ _) | (with_reducible refine bel_set (by first | omega | (simp; done) | (simp; omega)) ?_) | (with_reducible refine bel_alloc (by first | omega | (simp; done) | (simp; omega)) ?_) | (with_reducible refine bel_drew ?_) | (with_reducible refine bel_drewN ?_ _))), trivial⟩ ?_
      rintro w1 ⟨A1, BA, -⟩
      have c_A1 := cell_of_block A1.out
      have f_A1 := frozen_of_block A1.out
      replace FS := fls_keep FS BA
      go_wp2_with fail
      refine (small12_any _).mono ?_; rintro e w2 ⟨rfl, B2⟩
      replace A1 := Lib.hid (keepb A1.out B2.out)
      replace c_A1 := cell_of_block A1.out
      replace f_A1 := frozen_of_block A1.out
      replace FS := fls_keep FS B2
      replace BA := Lib.hid (chain BA.out B2.out)
      go_wp2_with fail
      refine (cright_at n _ c a r l _ _ FS.out hn1 HR.out).mono ?_; rintro e w3 ⟨rfl, B3⟩
      replace A1 := Lib.hid (keepb A1.out B3.out)
      replace c_A1 := cell_of_block A1.out
      replace f_A1 := frozen_of_block A1.out
      replace FS := fls_keep FS B3
      replace BA := Lib.hid (chain BA.out B3.out)
      clear B2 B3
      go_wp2_with fail
      all_goals first
        | (go_ret; exact ⟨rfl, BA.out⟩)
        | (exfalso; have := HBad.out; omega)
        | (exfalso; have hb := HBad.out; simp_all; omega)
    · obtain ⟨e1, e2, e3⟩ : 0 ≤ now ∧ now ≤ 1099511627776 ∧ user ≠ 0 := by omega
      clear hbad
      have t0 : (user == 0) = false := by simpa using e3
      obtain ⟨d, o, htk⟩ : ∃ d o, chTick ⟨⟨n, l, c, a⟩, r⟩ now 100 = (d, o) := ⟨_, _, rfl⟩
      obtain ⟨d', htv⟩ := ctick_void (u := user) htk
      have HTk := Lib.hid htk
      obtain ⟨m, hm⟩ : ∃ m, m = o.map (flVoid user) := ⟨_, rfl⟩
      rw [← hm] at htv
      have HTv := Lib.hid htv
      have HM := Lib.hid hm
      have hml : m.length = o.length := by rw [hm]; simp
      have hol : o.length ≤ 8 := by
        unfold chTick at htk; simp only at htk
        split at htk
        · cases htk; simp
        · cases htk; rw [tickL_len, List.length_take]
          have := due_len ⟨n, l, c, a⟩ now r.rto
          simp only at this; omega
      have HML := Lib.hid hml
      have r0 : 2 ≤ r.rto := HRS.out.2.r0
      have r1 : r.rto ≤ 64 := HRS.out.2.r1
      obtain ⟨s', hs'⟩ : ∃ s', s' = sdVoid ⟨n, l, c, a⟩ user := ⟨_, rfl⟩
      have HRv := Lib.hid (show sdRight s' = true by rw [hs']; exact right_void HRS.out.1)
      rw [← hs'] at HTv
      have HCV := Lib.hid (fun W (h : Fls W (.slice p l.length cap) l) => cvoid_any n (.slice p l.length cap) c a r l user W h (by omega))
      rw [← hs'] at HCV
      clear htk htv hm hml hs' e3
      go_enter Try.func8, Try.ntmps8
      go_upto_region 1 with fail
      refine gen_wp (fun w1 => Hid (w1.heap[w.heap.size]? = some (.cells #[.int .i64 n, .slice p l.length cap, .int .i64 c, .int .i64 a, .int .i64 r.s, .int .i64 r.v, .int .i64 r.rto, .int .i64 r.fails, .bool r.has] 28)) ∧ Hid (Below w.heap.size w w1) ∧ True) ⟨Lib.hid (by first | (simp [World.setCell, Array.getElem?_modify]; done) | (simp [World.setCell, Array.getElem?_modify]; omega) | ((repeat (first | (with_reducible exact heap_new _ _ _ (by first | rfl | (simp; done))) | (with_reducible refine keepa ?_ _) | (simp [World.setCell, Array.getElem?_modify]; done))); done)), Lib.hid (by repeat (first | (with_reducible exact Below.refl _ _) | (with_reducible refine bel_set (by first | omega | (simp; done) | (simp; omega)) ?_) | (with_reducible refine bel_alloc (by first | omega | (simp; done) | (simp; omega)) ?_) | (with_reducible refine bel_drew ?_) | (with_reducible refine bel_drewN ?_ _))), trivial⟩ ?_
      rintro w1 ⟨A1, BA, -⟩
      have c_A1 := cell_of_block A1.out
      have f_A1 := frozen_of_block A1.out
      replace FS := fls_keep FS BA
      go_wp2_with fail
      refine (small12_any _).mono ?_; rintro e w2 ⟨rfl, B2⟩
      replace A1 := Lib.hid (keepb A1.out B2.out)
      replace c_A1 := cell_of_block A1.out
      replace f_A1 := frozen_of_block A1.out
      replace FS := fls_keep FS B2
      replace BA := Lib.hid (chain BA.out B2.out)
      go_wp2_with fail
      refine (cright_at n _ c a r l _ _ FS.out hn1 HR.out).mono ?_; rintro e w3 ⟨rfl, B3⟩
      replace A1 := Lib.hid (keepb A1.out B3.out)
      replace c_A1 := cell_of_block A1.out
      replace f_A1 := frozen_of_block A1.out
      replace FS := fls_keep FS B3
      replace BA := Lib.hid (chain BA.out B3.out)
      clear B2 B3
      go_wp2_with fail
      refine (ctick_any n _ c a r l now 100 _ FS.out HRS.out.1 ⟨e1, e2⟩ ⟨by omega, by omega⟩ (by decide) _ _ HTk.out).mono ?_
      rintro e w4 ⟨p4, cap4, po, capo, rfl, -, O4, B4⟩
      replace A1 := Lib.hid (keepb A1.out B4.out)
      replace c_A1 := cell_of_block A1.out
      replace f_A1 := frozen_of_block A1.out
      replace FS := fls_keep FS B4
      replace BA := Lib.hid (chain BA.out B4.out)
      have FO : Hid (Fls w4 (.slice po o.length capo) o) := Lib.hid O4.out.sl
      clear O4 B4
      go_upto_region 5 with fail
      refine gen_wp (fun w5 => Hid (Below w4.heap.size w4 w5) ∧ True) ⟨Lib.hid (by repeat (first | (with_reducible exact Below.refl _ _) | (with_reducible refine bel_set (by first | omega | (simp; done) | (simp; omega)) ?_) | (with_reducible refine bel_alloc (by first | omega | (simp; done) | (simp; omega)) ?_) | (with_reducible refine bel_drew ?_) | (with_reducible refine bel_drewN ?_ _))), trivial⟩ ?_
      clear c_A1 f_A1
      rintro w5 ⟨N, -⟩
      replace A1 := Lib.hid (keepb A1.out N.out)
      replace c_A1 := cell_of_block A1.out
      replace f_A1 := frozen_of_block A1.out
      replace FS := fls_keep FS N
      replace FO := fls_keep FO N
      replace BA := Lib.hid (chain BA.out N.out)
      clear N
      go_wp2_with fail
      refine (HCV.out _ FS.out).mono ?_
      rintro e w6 ⟨p6, cap6, rfl, O6, B6⟩
      replace A1 := Lib.hid (keepb A1.out B6.out)
      replace c_A1 := cell_of_block A1.out
      replace f_A1 := frozen_of_block A1.out
      replace FO := fls_keep FO B6
      replace BA := Lib.hid (chain BA.out B6.out)
      go_wp2_with fail
      refine (ctick_any s'.next _ s'.cwnd s'.acc r s'.fl now 100 _ O6.out.sl HRv.out ⟨e1, e2⟩ ⟨by omega, by omega⟩ (by decide) _ _ HTv.out).mono ?_
      rintro e w7 ⟨p7, cap7, pm, capm, rfl, -, O7, B7⟩
      rw [HML.out] at O7 ⊢
      replace A1 := Lib.hid (keepb A1.out B7.out)
      replace c_A1 := cell_of_block A1.out
      replace f_A1 := frozen_of_block A1.out
      replace FO := fls_keep FO B7
      replace BA := Lib.hid (chain BA.out B7.out)
      have FM : Hid (Fls w7 (.slice pm o.length capm) m) := Lib.hid (by unfold Fls; rw [HML.out]; exact O7.out.sl)
      clear O7 B7 O6 B6 FS
      go_upto_region 6 with fail
      refine gen_wp (fun w8 => Hid (Below w7.heap.size w7 w8) ∧ True) ⟨Lib.hid (by repeat (first | (with_reducible exact Below.refl _ _) | (with_reducible refine bel_set (by first | omega | (simp; done) | (simp; omega)) ?_) | (with_reducible refine bel_alloc (by first | omega | (simp; done) | (simp; omega)) ?_) | (with_reducible refine bel_drew ?_) | (with_reducible refine bel_drewN ?_ _))), trivial⟩ ?_
      clear c_A1 f_A1
      rintro w8 ⟨N, -⟩
      replace FO := fls_keep FO N
      replace FM := fls_keep FM N
      replace BA := Lib.hid (chain BA.out N.out)
      clear N A1
      have hcapo : o.length ≤ capo := by obtain ⟨_, _, e, h⟩ := fls_shape FO.out; injection e with e1 e2 e3; omega
      have hcapm : o.length ≤ capm := by obtain ⟨_, _, e, h⟩ := fls_shape FM.out; injection e with e1 e2 e3; omega
      go_wp2_with fail
      go_loopw [12] (fun i wr => ∃ k : Nat, k ≤ o.length ∧ i = .int .i64 k ∧ Below w8.heap.size w8 wr) (fun i _ => o.length - (intOf i).toNat)
      case atStart => exact ⟨0, by omega, rfl, Below.refl _ _⟩
      case round =>
        obtain ⟨k, hk, rfl, hwb⟩ := hrel
        have HW := Lib.hid hwb
        clear hwb
        by_cases hlt : k < o.length
        · obtain ⟨b, ob, rfl, _⟩ := FO.out.open (by omega)
          obtain ⟨b4, o4, rfl, _⟩ := FM.out.open (by omega)
          obtain ⟨f, hf⟩ : ∃ f, f = o[k] := ⟨_, rfl⟩
          obtain ⟨c0, c1, c2, c3, c4, c5, c6⟩ := fls_row FO HW.out k hlt f hf
          have hkm : k < m.length := by have := HML.out; omega
          have HG := Lib.hid (show m[k] = flVoid user f by rw [hf]; have := HM.out; subst this; simp)
          have t1 : (k : Int) < (o.length : Int) := by omega
          have t2 : (0 : Int) ≤ (k : Int) := by omega
          clear hf
          go_upto_region 12 with fail
          refine gen_wp (fun w9 => Hid (Below wr.heap.size wr w9) ∧ Hid (w9.heap[wr.heap.size]? = some (.cells #[.int .i64 f.seq, .int .i64 f.note.user, .int .i64 f.note.ver, .int .i64 f.note.stat, .int .i64 f.note.cnt, .int .i64 f.at_, .int .i64 f.tries] 40)) ∧ True) ⟨Lib.hid (by repeat (first | (with_reducible exact Below.refl _ _) | (with_reducible refine bel_set (by first | omega | (simp; done) | (simp; omega)) ?_) | (with_reducible refine bel_alloc (by first | omega | (simp; done) | (simp; omega)) ?_) | (with_reducible refine bel_drew ?_) | (with_reducible refine bel_drewN ?_ _))), Lib.hid (by first | (simp [World.setCell, Array.getElem?_modify]; done) | (simp [World.setCell, Array.getElem?_modify]; omega) | ((repeat (first | (with_reducible exact heap_new _ _ _ (by first | rfl | (simp; done))) | (with_reducible refine keepa ?_ _) | (simp [World.setCell, Array.getElem?_modify]; done))); done)), trivial⟩ ?_
          rintro w9 ⟨N, AF, -⟩
          have c_AF := cell_of_block AF.out
          have f_AF := frozen_of_block AF.out
          clear c0 c1 c2 c3 c4 c5 c6
          have HW6 := Lib.hid (chain HW.out N.out)
          clear N
          by_cases hu : f.note.user = user
          · have t3 : (f.note.user == user) = true := by simpa using hu
            have hz := HW.out.size
            go_upto_region 14 with fail
            refine gen_wp (fun wa => Hid (Below w8.heap.size w8 wa) ∧ Hid (wa.heap[wr.heap.size]? = some (.cells #[.int .i64 f.seq, .int .i64 0, .int .i64 0, .int .i64 0, .int .i64 0, .int .i64 f.at_, .int .i64 f.tries] 40)) ∧ True) ⟨Lib.hid (by have hbsz := Below.size (HW6.out); repeat (first | (with_reducible exact HW6.out) | (with_reducible refine bel_set (by first | omega | (simp; done) | (simp; omega)) ?_) | (with_reducible refine bel_alloc (by first | omega | (simp; done) | (simp; omega)) ?_) | (with_reducible refine bel_drew ?_) | (with_reducible refine bel_drewN ?_ _))), Lib.hid (by first | (simp [World.setCell, Array.getElem?_modify, AF.out]; done) | (simp [World.setCell, Array.getElem?_modify, AF.out]; omega) | ((repeat (first | (with_reducible exact AF.out) | (with_reducible exact heap_new _ _ _ (by first | rfl | (simp; done))) | (with_reducible refine keepa ?_ _) | (simp [World.setCell, Array.getElem?_modify, AF.out]; done))); done)), trivial⟩ ?_
            clear c_AF f_AF
            rintro wa ⟨HW7, AF, -⟩
            have c_AF := cell_of_block AF.out
            have f_AF := frozen_of_block AF.out
            obtain ⟨d0, d1, d2, d3, d4, d5, d6⟩ := fls_row FM HW7.out k hkm ⟨f.seq, nt0, f.at_, f.tries⟩ (by rw [HG.out, flVoid, if_pos hu])
            simp only [nt0] at d0 d1 d2 d3 d4 d5 d6
            go_quiet (fail)
            go_wp2_with fail
            go_roundw
            case rel => exact ⟨k + 1, by omega, by go_num, bel_drewN HW7.out _⟩
            case measure => simp [intOf]; omega
          · have t3 : (f.note.user == user) = false := by simpa using hu
            obtain ⟨d0, d1, d2, d3, d4, d5, d6⟩ := fls_row FM HW6.out k hkm f (by rw [HG.out, flVoid, if_neg hu])
            go_wp2_with fail
            go_quiet (fail)
            go_wp2_with fail
            go_roundw
            case rel => exact ⟨k + 1, by omega, by go_num, bel_drewN HW6.out _⟩
            case measure => simp [intOf]; omega
        · have hke : k = o.length := by omega
          subst hke
          have t1 : decide ((o.length : Int) < (o.length : Int)) = false := by simp
          have BAr := Lib.hid (chain BA.out HW.out)
          go_wp2_with fail
          go_ret
          exact ⟨rfl, BAr.out⟩

end Go.Proofs.Yteilgibfmljoeaa.lawChannelVoids
namespace Go.Proofs.Yteilgibfmljoeaa.lawChannelVoids
open Go.ChangeShapes Go.WideShapes Go.RowKit
set_option linter.unusedVariables false
theorem own : ownKnob Try.prog.godebug = none := by kernel_rfl
theorem laidOut : laidOutB Try.prog = true := by kernel_rfl
set_option maxRecDepth 100000 in
theorem lifted (os : Os) (started : os.Started) (H : Type) (enc : TypeId × Value → H) :
    ReturnsInHanded {} Try.checked os 8 .any (Rows.channelVoidsSpec.pre6 enc Try.prog Try.f8 Rows.channelVoidsRow.domain false) (Rows.channelVoidsSpec.post enc Try.prog Try.f8 false true false false) := by
  refine returnsInHanded_of_change (C := Try.checked) own started (by kernel_rfl) Try.func8
    (ChangeSpec.witness6 (enc := enc) (C := Try.checked) false ⟨#[], #[.agg #[.int .i64 0, .slice none 0 0, .int .i64 0, .int .i64 0, .int .i64 0, .int .i64 0, .int .i64 0, .int .i64 0, .bool false], .int .i64 0, .int .i64 0], []⟩ 8 (by kernel_rfl) (by kernel_rfl) (by kernel_rfl) (by kernel_rfl)) ?_
  intro W base args ds gs before hval0 hW hcnd _
  have hval : ∀ (j : Nat) t v, Try.f8.params[j]? = some t → args[j]? = some v → Value.okWide Try.prog W .any base t v := hval0
  have hW' := hW
  obtain ⟨p, q, hA0, hV, rfl, hfz, hnd⟩ := hW
  have hA : DataW.TrodAll enc Try.prog W 0 (fun _ => true) true Try.f8.params.toList args.toList ds p := hA0
  rw [Try.params8] at hA hval
  obtain ⟨v0, vs0, d0, ds0, p0, q0, hargs, rfl, rfl, h0, r0⟩ := trodAll_cons hA
  obtain ⟨v1, vs1, d1, ds1, p1, q1, rfl, rfl, rfl, h1, r1⟩ := trodAll_cons r0
  obtain ⟨v2, vs2, d2, ds2, p2, q2, rfl, rfl, rfl, h2, r2⟩ := trodAll_cons r1
  obtain ⟨rfl, rfl, rfl⟩ := trodAll_nil r2
  obtain rfl : args = #[v0, v1, v2] := by cases args; simp_all
  obtain ⟨rfl, rfl⟩ := trodVars_none hV
  obtain ⟨n0, u0, c0, b0, q0', z0, rfl, f0, w0⟩ := K.open_ch_arg (hval 0 28 v0 rfl rfl) h0
  have k0 := h0
  have lt0 : ∀ x ∈ p0, x.block < W.heap.size := by obtain ⟨m, hm⟩ := k0; exact DataW.trod_lt m _ _ _ hm
  obtain ⟨a1, rfl, rfl, rfl, w1⟩ := open_int Try.underlying3 (hval 1 3 v1 rfl rfl) h1
  obtain ⟨a2, rfl, rfl, rfl, w2⟩ := open_int Try.underlying3 (hval 2 3 v2 rfl rfl) h2
  clear hA0 hval0
  refine (walk n0 u0 c0 b0 q0' z0 a1 a2 W f0 w0 w1 w2).mono fun e W' ⟨he, bel⟩ => ?_
  subst he
  exact ⟨_, rfl, _, _, _, [], _, [], hW', trodAll_mk1 (shut_bool Try.underlying4 _), (trodAll_cons_mk (Below.trod laidOut (by kernel_rfl) (of_decide_eq_true (by kernel_rfl)) k0 bel lt0) (trodAll_cons_mk (shut_int Try.underlying3 w1) (trodAll_cons_mk (shut_int Try.underlying3 w2) trodAll_mk0))), rfl, bel.frame _, fun h => by cases h⟩
theorem over : Rows.channelVoidsRow.holds Try.pinned (OpenSpec.ofChange Rows.channelVoidsSpec) :=
  OpenClaim.holds_of_wide 8 Try.f8 rfl rfl rfl rfl rfl rfl rfl ⟨rfl, rfl, rfl, rfl, rfl⟩ rfl rfl rfl rfl rfl (by kernel_rfl) Try.func8 (by kernel_rfl)
    (of_decide_eq_true (by kernel_rfl)) (by unfold Func.isWrapper; first | (rw [if_pos (by decide +kernel)]; kernel_rfl) | (rw [if_neg (by decide +kernel)]; exact ⟨rfl, rfl⟩))
    (fun os started H enc _ => lifted os started H enc)
/-- THE STATEMENT -/
theorem proved : Rows.ChannelVoidsSaid := over
end Go.Proofs.Yteilgibfmljoeaa.lawChannelVoids
#print axioms Go.Proofs.Yteilgibfmljoeaa.lawChannelVoids.proved
