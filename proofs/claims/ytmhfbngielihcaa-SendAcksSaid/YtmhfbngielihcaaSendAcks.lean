/-
  THE STATEMENT 'Rows.SendAcksSaid': nightjarlaw11.SendAcks returns true for every input, and its arguments read afterwards as they read before. No condition.
-/
import Derived.Test.YtmhfbngielihcaaSendRead
import Derived.Test.YtmhfbngielihcaaSendPlain
import Derived.Test.YtmhfbngielihcaaRows
import Derived.ProofKit
import Derived.OpenShut
import Derived.ShutString
import Derived.ChangeOld
import Derived.Below
set_option linter.unusedVariables false
set_option linter.unusedSimpArgs false
namespace Go.Proofs.Ytmhfbngielihcaa.lawSendAcks
open Go Go.RowKit Nj K

/-- a flight that stays -/
def stays (n ack sack : Int) (f : Fl) : Bool := !(decide (0 ≤ ack) && decide (ack < n) && told f.seq ack sack)
theorem acked_fl {n : Int} {l : List Fl} {c a ack sack now : Int} {t : Sd} {m : Int} (h : sdAcked ⟨n, l, c, a⟩ ack sack now = (t, m)) : t.fl = l.filter (stays n ack sack) := by
  unfold sdAcked at h
  split at h
  · rename_i hb
    cases h
    symm
    rw [List.filter_eq_self]
    intro f _
    unfold stays
    rcases hb with hb | hb
    · have : decide (0 ≤ ack) = false := by simp; omega
      simp [this]
    · have : decide (ack < n) = false := by simp; omega
      simp [this]
  · rename_i hb
    dsimp only at hb
    cases h
    have h1 : decide (0 ≤ ack) = true := by simp; omega
    have h2 : decide (ack < n) = true := by simp; omega
    show l.filter _ = l.filter _
    congr 1
    funext f
    simp [stays, h1, h2]
theorem stay_out {n ack sack : Int} {f : Fl} (h : ack < 0 ∨ n ≤ ack) : stays n ack sack f = true := by
  unfold stays
  rcases h with h | h
  · have : decide (0 ≤ ack) = false := by simp; omega
    simp [this]
  · have : decide (ack < n) = false := by simp; omega
    simp [this]
theorem stay_in {n ack sack : Int} {f : Fl} (h : ¬ (ack < 0 ∨ n ≤ ack)) : stays n ack sack f = !told f.seq ack sack := by
  have h1 : decide (0 ≤ ack) = true := by simp; omega
  have h2 : decide (ack < n) = true := by simp; omega
  simp [stays, h1, h2]


set_option maxRecDepth 100000 in
set_option maxHeartbeats 8000000 in
theorem walk (n : Int) (v : Value) (c a : Int) (l : List Fl) (ack sack now : Int) (w : World) (h : Fls w v l) (wn : (Lit.int .i64 n).wf = true) (wa : (Lit.int .i64 ack).wf = true) (_ : (Lit.int .i64 sack).wf = true) (_ : (Lit.int .i64 now).wf = true) :
    Calls Try.prog 4 #[.agg #[.int .i64 n, v, .int .i64 c, .int .i64 a], .int .i64 ack, .int .i64 sack, .int .i64 now] w fun e w' => e = .returned (.bool true) ∧ Below w.heap.size w w' := by
  have FS := Lib.hid h
  obtain ⟨hn0, hn1⟩ := wf_i64 wn
  obtain ⟨p, cap, rfl, hcap⟩ := fls_shape h
  clear h wn
  cases hr : sdRight ⟨n, l, c, a⟩ with
  | false =>
    have HR := Lib.hid hr
    clear hr
    go_enter Try.func4, Try.ntmps4
    go_upto_region 1 with fail
    refine gen_wp (fun w1 => Hid (w1.heap[w.heap.size]? = some (.cells #[.int .i64 n, .slice p l.length cap, .int .i64 c, .int .i64 a] 24)) ∧ Hid (Below w.heap.size w w1) ∧ True) ⟨Lib.hid (by first | (simp [World.setCell, Array.getElem?_modify]; done) | (simp [World.setCell, Array.getElem?_modify]; omega) | ((repeat (first | (with_reducible exact heap_new _ _ _ (by first | rfl | (simp; done))) | (with_reducible refine keepa ?_ _) | (simp [World.setCell, Array.getElem?_modify]; done))); done)), Lib.hid (by repeat (first | (with_reducible exact Below.refl _ _) | (with_reducible refine bel_set (by first | omega | (simp; done) | (simp; omega)) ?_) | (with_reducible refine bel_alloc (by first | omega | (simp; done) | (simp; omega)) ?_) | (with_reducible refine bel_drew ?_) | (with_reducible refine bel_drewN ?_ _))), trivial⟩ ?_
    rintro w1 ⟨A1, BA, -⟩
    have c_A1 := cell_of_block A1.out
    have f_A1 := frozen_of_block A1.out
    replace FS := fls_keep FS BA
    go_wp2_with fail
    refine (small11_any _).mono ?_; rintro e w2 ⟨rfl, B2⟩
    replace A1 := Lib.hid (keepb A1.out B2.out)
    replace c_A1 := cell_of_block A1.out
    replace f_A1 := frozen_of_block A1.out
    replace FS := fls_keep FS B2
    replace BA := Lib.hid (chain BA.out B2.out)
    go_wp2_with fail
    refine (sright_at _ _ _ _ _ _ _ FS.out hn1 HR.out).mono ?_; rintro e w3 ⟨rfl, B3⟩
    replace A1 := Lib.hid (keepb A1.out B3.out)
    replace c_A1 := cell_of_block A1.out
    replace f_A1 := frozen_of_block A1.out
    replace FS := fls_keep FS B3
    replace BA := Lib.hid (chain BA.out B3.out)
    clear B2 B3
    go_wp2_with fail
    go_ret
    exact ⟨rfl, BA.out⟩
  | true =>
    have HR := Lib.hid hr
    have HP := Lib.hid (rightSd hr)
    clear hr
    have hl8 : l.length ≤ 8 := HP.out.len
    by_cases hbad : now < 0 ∨ 1099511627776 < now
    · have HBad := Lib.hid hbad
      clear hbad
      go_enter Try.func4, Try.ntmps4
      go_upto_region 1 with fail
      refine gen_wp (fun w1 => Hid (w1.heap[w.heap.size]? = some (.cells #[.int .i64 n, .slice p l.length cap, .int .i64 c, .int .i64 a] 24)) ∧ Hid (Below w.heap.size w w1) ∧ True) ⟨Lib.hid (by first | (simp [World.setCell, Array.getElem?_modify]; done) | (simp [World.setCell, Array.getElem?_modify]; omega) | ((repeat (first | (with_reducible exact heap_new _ _ _ (by first | rfl | (simp; done))) | (with_reducible refine keepa ?_ _) | (simp [World.setCell, Array.getElem?_modify]; done))); done)), Lib.hid (by repeat (first | (with_reducible exact Below.refl _ _) | (with_reducible refine bel_set (by first | omega | (simp; done) | (simp; omega)) ?_) | (with_reducible refine bel_alloc (by first | omega | (simp; done) | (simp; omega)) ?_) | (with_reducible refine bel_drew ?_) | (with_reducible refine bel_drewN ?_ _))), trivial⟩ ?_
      rintro w1 ⟨A1, BA, -⟩
      have c_A1 := cell_of_block A1.out
      have f_A1 := frozen_of_block A1.out
      replace FS := fls_keep FS BA
      go_wp2_with fail
      refine (small11_any _).mono ?_; rintro e w2 ⟨rfl, B2⟩
      replace A1 := Lib.hid (keepb A1.out B2.out)
      replace c_A1 := cell_of_block A1.out
      replace f_A1 := frozen_of_block A1.out
      replace FS := fls_keep FS B2
      replace BA := Lib.hid (chain BA.out B2.out)
      go_wp2_with fail
      refine (sright_at _ _ _ _ _ _ _ FS.out hn1 HR.out).mono ?_; rintro e w3 ⟨rfl, B3⟩
      replace A1 := Lib.hid (keepb A1.out B3.out)
      replace c_A1 := cell_of_block A1.out
      replace f_A1 := frozen_of_block A1.out
      replace FS := fls_keep FS B3
      replace BA := Lib.hid (chain BA.out B3.out)
      clear B2 B3
      go_wp2_with fail
      all_goals first
        | (go_ret; exact ⟨rfl, BA.out⟩)
        | (exfalso; have := HBad.out; omega)
    · obtain ⟨e1, e2⟩ : 0 ≤ now ∧ now ≤ 1099511627776 := by omega
      clear hbad
      obtain ⟨t, m, htm⟩ : ∃ t m, sdAcked ⟨n, l, c, a⟩ ack sack now = (t, m) := ⟨_, _, rfl⟩
      obtain ⟨-, hnx, hle, -, -, -⟩ := acked_facts HR.out e2 htm
      obtain ⟨tn, tl, tc, ta⟩ := t
      simp only at hnx hle
      subst hnx
      have HA := Lib.hid htm
      have HTL := Lib.hid (show tl = l.filter (stays tn ack sack) from acked_fl htm)
      obtain ⟨D, hD⟩ : ∃ D : Nat → List Fl, ∀ k, D k = (l.take k).filter (stays tn ack sack) := ⟨_, fun _ => rfl⟩
      have HD := Lib.hid hD
      have HDE := Lib.hid (show D l.length = tl by rw [hD, List.take_length, HTL.out])
      have HF := Lib.hid (show ∀ f ∈ l, 0 < f.seq ∧ f.seq < tn ∧ tn ≤ 1073741824 from fun f hf => by have := HP.out.fl f hf; have := HP.out.n1; simp only at *; omega)
      clear htm hD
      go_enter Try.func4, Try.ntmps4
      go_upto_region 1 with fail
      refine gen_wp (fun w1 => Hid (w1.heap[w.heap.size]? = some (.cells #[.int .i64 tn, .slice p l.length cap, .int .i64 c, .int .i64 a] 24)) ∧ Hid (Below w.heap.size w w1) ∧ True) ⟨Lib.hid (by first | (simp [World.setCell, Array.getElem?_modify]; done) | (simp [World.setCell, Array.getElem?_modify]; omega) | ((repeat (first | (with_reducible exact heap_new _ _ _ (by first | rfl | (simp; done))) | (with_reducible refine keepa ?_ _) | (simp [World.setCell, Array.getElem?_modify]; done))); done)), Lib.hid (by repeat (first | (with_reducible exact Below.refl _ _) | (with_reducible refine bel_set (by first | omega | (simp; done) | (simp; omega)) ?_) | (with_reducible refine bel_alloc (by first | omega | (simp; done) | (simp; omega)) ?_) | (with_reducible refine bel_drew ?_) | (with_reducible refine bel_drewN ?_ _))), trivial⟩ ?_
      rintro w1 ⟨A1, BA, -⟩
      have c_A1 := cell_of_block A1.out
      have f_A1 := frozen_of_block A1.out
      replace FS := fls_keep FS BA
      go_wp2_with fail
      refine (small11_any _).mono ?_; rintro e w2 ⟨rfl, B2⟩
      replace A1 := Lib.hid (keepb A1.out B2.out)
      replace c_A1 := cell_of_block A1.out
      replace f_A1 := frozen_of_block A1.out
      replace FS := fls_keep FS B2
      replace BA := Lib.hid (chain BA.out B2.out)
      go_wp2_with fail
      refine (sright_at _ _ _ _ _ _ _ FS.out hn1 HR.out).mono ?_; rintro e w3 ⟨rfl, B3⟩
      replace A1 := Lib.hid (keepb A1.out B3.out)
      replace c_A1 := cell_of_block A1.out
      replace f_A1 := frozen_of_block A1.out
      replace FS := fls_keep FS B3
      replace BA := Lib.hid (chain BA.out B3.out)
      clear B2 B3
      go_wp2_with fail
      refine (sacked_any tn _ c a l ack sack now _ FS.out HR.out ⟨e1, e2⟩ _ _ HA.out).mono ?_; rintro e w4 ⟨p4, cap4, rfl, O4, B4⟩
      simp only at O4 ⊢
      replace A1 := Lib.hid (keepb A1.out B4.out)
      replace c_A1 := cell_of_block A1.out
      replace f_A1 := frozen_of_block A1.out
      replace FS := fls_keep FS B4
      replace BA := Lib.hid (chain BA.out B4.out)
      have FT : Hid (Fls w4 (.slice p4 tl.length cap4) tl) := Lib.hid O4.out.sl
      have hcap4 : tl.length ≤ cap4 := by obtain ⟨_, _, e, h⟩ := fls_shape FT.out; injection e with e1 e2 e3; omega
      clear B4 O4
      go_upto_region 5 with fail
      refine gen_wp (fun w5 => Hid (Below w4.heap.size w4 w5) ∧ Hid (w5.heap[w4.heap.size]? = some (.cells #[.int .i64 tn, .slice p4 tl.length cap4, .int .i64 tc, .int .i64 ta] 24)) ∧ True) ⟨Lib.hid (by repeat (first | (with_reducible exact Below.refl _ _) | (with_reducible refine bel_set (by first | omega | (simp; done) | (simp; omega)) ?_) | (with_reducible refine bel_alloc (by first | omega | (simp; done) | (simp; omega)) ?_) | (with_reducible refine bel_drew ?_) | (with_reducible refine bel_drewN ?_ _))), Lib.hid (by first | (simp [World.setCell, Array.getElem?_modify, A1.out]; done) | (simp [World.setCell, Array.getElem?_modify, A1.out]; omega) | ((repeat (first | (with_reducible exact A1.out) | (with_reducible exact heap_new _ _ _ (by first | rfl | (simp; done))) | (with_reducible refine keepa ?_ _) | (simp [World.setCell, Array.getElem?_modify, A1.out]; done))); done)), trivial⟩ ?_
      clear c_A1 f_A1
      rintro w5 ⟨N, A6, -⟩
      have c_A6 := cell_of_block A6.out
      have f_A6 := frozen_of_block A6.out
      replace A1 := Lib.hid (keepb A1.out N.out)
      replace c_A1 := cell_of_block A1.out
      replace f_A1 := frozen_of_block A1.out
      replace FS := fls_keep FS N
      replace FT := fls_keep FT N
      replace BA := Lib.hid (chain BA.out N.out)
      clear N
      go_wp2_with fail
      go_loopw [12, 13] (fun kv i wr => ∃ k d : Nat, k ≤ l.length ∧ i = .int .i64 k ∧ kv = .int .i64 d ∧ d = (D k).length ∧ (D k) = tl.take d ∧ Below w5.heap.size w5 wr) (fun _ i _ => l.length - (intOf i).toNat)
      case atStart => exact ⟨0, 0, by omega, rfl, rfl, by rw [HD.out]; rfl, by rw [HD.out]; rfl, Below.refl _ _⟩
      case round =>
        obtain ⟨k, d, hk, rfl, rfl, hd, hda, hwb⟩ := hrel
        have HW := Lib.hid hwb
        have HDd := Lib.hid hd
        have HDa := Lib.hid hda
        clear hwb hd hda
        have A1r := Lib.hid (keepb A1.out HW.out)
        have A6r := Lib.hid (keepb A6.out HW.out)
        clear c_A1 f_A1 c_A6 f_A6
        have c_A1r := cell_of_block A1r.out
        have f_A1r := frozen_of_block A1r.out
        have c_A6r := cell_of_block A6r.out
        have f_A6r := frozen_of_block A6r.out
        by_cases hlt : k < l.length
        · obtain ⟨b, o, rfl, _⟩ := FS.out.open (by omega)
          obtain ⟨f, hf⟩ : ∃ f, f = l[k] := ⟨_, rfl⟩
          obtain ⟨c0, c1, c2, c3, c4, c5, c6⟩ := fls_row FS HW.out k hlt f hf
          obtain ⟨f0, f1, f2⟩ := HF.out f (by rw [hf]; simp)
          have HFk := Lib.hid hf
          have t1 : (k : Int) < (l.length : Int) := by omega
          have t2 : (0 : Int) ≤ (k : Int) := by omega
          clear hf
          go_upto_region 10 with fail
          refine gen_wp (fun w6 => Hid (Below wr.heap.size wr w6) ∧ Hid (w6.heap[wr.heap.size]? = some (.cells #[.int .i64 f.seq, .int .i64 f.note.user, .int .i64 f.note.ver, .int .i64 f.note.stat, .int .i64 f.note.cnt, .int .i64 f.at_, .int .i64 f.tries] 34)) ∧ True) ⟨Lib.hid (by repeat (first | (with_reducible exact Below.refl _ _) | (with_reducible refine bel_set (by first | omega | (simp; done) | (simp; omega)) ?_) | (with_reducible refine bel_alloc (by first | omega | (simp; done) | (simp; omega)) ?_) | (with_reducible refine bel_drew ?_) | (with_reducible refine bel_drewN ?_ _))), Lib.hid (by first | (simp [World.setCell, Array.getElem?_modify, A1r.out, A6r.out]; done) | (simp [World.setCell, Array.getElem?_modify, A1r.out, A6r.out]; omega) | ((repeat (first | (with_reducible exact A1r.out) | (with_reducible exact A6r.out) | (with_reducible exact heap_new _ _ _ (by first | rfl | (simp; done))) | (with_reducible refine keepa ?_ _) | (simp [World.setCell, Array.getElem?_modify, A1r.out, A6r.out]; done))); done)), trivial⟩ ?_
          clear c_A1r f_A1r c_A6r f_A6r
          rintro w6 ⟨N, AF, -⟩
          have c_AF := cell_of_block AF.out
          have f_AF := frozen_of_block AF.out
          clear c0 c1 c2 c3 c4 c5 c6
          replace A1r := Lib.hid (keepb A1r.out N.out)
          replace c_A1r := cell_of_block A1r.out
          replace f_A1r := frozen_of_block A1r.out
          replace A6r := Lib.hid (keepb A6r.out N.out)
          replace c_A6r := cell_of_block A6r.out
          replace f_A6r := frozen_of_block A6r.out
          have HW6 := Lib.hid (chain HW.out N.out)
          clear N
          have hd8 : d ≤ 8 := by rw [HDd.out, HD.out]; exact Nat.le_trans (List.length_filter_le _ _) (Nat.le_trans (List.length_take_le _ _) (by omega))
          rcases (show (ack < 0 ∨ (0 ≤ ack ∧ tn ≤ ack)) ∨ (0 ≤ ack ∧ ack < tn) by omega) with (g1 | ⟨g1, g2⟩) | ⟨g1, g2⟩
          · have HQ := Lib.hid (stay_out (n := tn) (ack := ack) (sack := sack) (f := f) (by omega))
            have u1 := dec_f (show ¬ 0 ≤ ack by omega)
            go_upto_region 11 with fail
            have HDs := Lib.hid (show D (k + 1) = D k ++ [f] by rw [HD.out, HD.out, keep_step hlt, ← HFk.out, if_pos HQ.out])
            have HPre := Lib.hid (show D (k + 1) = tl.take (d + 1) ∧ ∃ h : d < tl.length, f = tl[d] by
              have hp : D (k + 1) <+: tl := by
                rw [← HDE.out, HD.out, HD.out]
                exact (List.take_prefix_take_left (by omega)).filter _
              rw [HDs.out] at hp
              obtain ⟨t, ht⟩ := hp
              have hdl : (D k).length = d := HDd.out.symm
              have e : tl = D k ++ (f :: t) := by rw [← ht]; simp
              have hlt' : d < tl.length := by rw [e]; simp; omega
              refine ⟨?_, hlt', ?_⟩
              · rw [HDs.out, e, List.take_append, hdl, show d + 1 - d = 1 by omega, List.take_of_length_le (by omega)]; simp
              · have : tl[d]? = some f := by rw [e, List.getElem?_append_right (by omega), hdl, Nat.sub_self]; rfl
                rw [List.getElem?_eq_getElem hlt'] at this; simpa using this.symm)
            obtain ⟨hdl, hdf⟩ := HPre.out.2
            obtain ⟨b4, o4, rfl, _⟩ := FT.out.open (by omega)
            obtain ⟨d0, d1, d2, d3, d4, d5, d6⟩ := fls_row FT HW6.out d hdl f hdf
            have t3 := dec_f (show ¬ (tl.length : Int) ≤ (d : Int) by omega)
            have t4 : (d : Int) < (tl.length : Int) := by omega
            have t5 : (0 : Int) ≤ (d : Int) := by omega
            clear hdf
            go_wp2_with fail
            go_quiet (fail)
            go_wp2_with fail
            go_roundw
            case rel => exact ⟨k + 1, d + 1, by omega, by go_num, by go_num, by rw [HDs.out]; simp; exact HDd.out, HPre.out.1, bel_drewN HW6.out _⟩
            case measure => simp [intOf]; omega
          · have HQ := Lib.hid (stay_out (n := tn) (ack := ack) (sack := sack) (f := f) (by omega))
            have u1 := dec_f (show ¬ ack < tn by omega)
            go_upto_region 11 with fail
            have HDs := Lib.hid (show D (k + 1) = D k ++ [f] by rw [HD.out, HD.out, keep_step hlt, ← HFk.out, if_pos HQ.out])
            have HPre := Lib.hid (show D (k + 1) = tl.take (d + 1) ∧ ∃ h : d < tl.length, f = tl[d] by
              have hp : D (k + 1) <+: tl := by
                rw [← HDE.out, HD.out, HD.out]
                exact (List.take_prefix_take_left (by omega)).filter _
              rw [HDs.out] at hp
              obtain ⟨t, ht⟩ := hp
              have hdl : (D k).length = d := HDd.out.symm
              have e : tl = D k ++ (f :: t) := by rw [← ht]; simp
              have hlt' : d < tl.length := by rw [e]; simp; omega
              refine ⟨?_, hlt', ?_⟩
              · rw [HDs.out, e, List.take_append, hdl, show d + 1 - d = 1 by omega, List.take_of_length_le (by omega)]; simp
              · have : tl[d]? = some f := by rw [e, List.getElem?_append_right (by omega), hdl, Nat.sub_self]; rfl
                rw [List.getElem?_eq_getElem hlt'] at this; simpa using this.symm)
            obtain ⟨hdl, hdf⟩ := HPre.out.2
            obtain ⟨b4, o4, rfl, _⟩ := FT.out.open (by omega)
            obtain ⟨d0, d1, d2, d3, d4, d5, d6⟩ := fls_row FT HW6.out d hdl f hdf
            have t3 := dec_f (show ¬ (tl.length : Int) ≤ (d : Int) by omega)
            have t4 : (d : Int) < (tl.length : Int) := by omega
            have t5 : (0 : Int) ≤ (d : Int) := by omega
            clear hdf
            go_wp2_with fail
            go_quiet (fail)
            go_wp2_with fail
            go_roundw
            case rel => exact ⟨k + 1, d + 1, by omega, by go_num, by go_num, by rw [HDs.out]; simp; exact HDd.out, HPre.out.1, bel_drewN HW6.out _⟩
            case measure => simp [intOf]; omega
          · have HQQ := Lib.hid (stay_in (n := tn) (ack := ack) (sack := sack) (f := f) (by omega))
            rcases (show f.seq ≤ ack ∨ (ack < f.seq ∧ f.seq - ack < 2) ∨ 8 < f.seq - ack ∨ (2 ≤ f.seq - ack ∧ f.seq - ack ≤ 8) by omega) with g3 | ⟨g3, g4⟩ | g3 | ⟨g3, g4⟩
            · have HQ := Lib.hid (show stays tn ack sack f = false by rw [HQQ.out]; unfold told; simp; omega)
              go_upto_region 11 with fail
              have HDs := Lib.hid (show D (k + 1) = D k by rw [HD.out, HD.out, keep_step hlt, ← HFk.out, HQ.out]; simp)
              go_wp2_with fail
              go_roundw
              case rel => exact ⟨k + 1, d, by omega, by go_num, rfl, by rw [HDs.out]; exact HDd.out, by rw [HDs.out]; exact HDa.out, HW6.out⟩
              case measure => simp [intOf]; omega
            · have HQ := Lib.hid (show stays tn ack sack f = true by rw [HQQ.out]; unfold told; simp; omega)
              have u1 := dec_f (show ¬ f.seq ≤ ack by omega)
              have u2 := dec_f (show ¬ 2 ≤ f.seq - ack by omega)
              go_upto_region 11 with fail
              have HDs := Lib.hid (show D (k + 1) = D k ++ [f] by rw [HD.out, HD.out, keep_step hlt, ← HFk.out, if_pos HQ.out])
              have HPre := Lib.hid (show D (k + 1) = tl.take (d + 1) ∧ ∃ h : d < tl.length, f = tl[d] by
                have hp : D (k + 1) <+: tl := by
                  rw [← HDE.out, HD.out, HD.out]
                  exact (List.take_prefix_take_left (by omega)).filter _
                rw [HDs.out] at hp
                obtain ⟨t, ht⟩ := hp
                have hdl : (D k).length = d := HDd.out.symm
                have e : tl = D k ++ (f :: t) := by rw [← ht]; simp
                have hlt' : d < tl.length := by rw [e]; simp; omega
                refine ⟨?_, hlt', ?_⟩
                · rw [HDs.out, e, List.take_append, hdl, show d + 1 - d = 1 by omega, List.take_of_length_le (by omega)]; simp
                · have : tl[d]? = some f := by rw [e, List.getElem?_append_right (by omega), hdl, Nat.sub_self]; rfl
                  rw [List.getElem?_eq_getElem hlt'] at this; simpa using this.symm)
              obtain ⟨hdl, hdf⟩ := HPre.out.2
              obtain ⟨b4, o4, rfl, _⟩ := FT.out.open (by omega)
              obtain ⟨d0, d1, d2, d3, d4, d5, d6⟩ := fls_row FT HW6.out d hdl f hdf
              have t3 := dec_f (show ¬ (tl.length : Int) ≤ (d : Int) by omega)
              have t4 : (d : Int) < (tl.length : Int) := by omega
              have t5 : (0 : Int) ≤ (d : Int) := by omega
              clear hdf
              go_wp2_with fail
              go_quiet (fail)
              go_wp2_with fail
              go_roundw
              case rel => exact ⟨k + 1, d + 1, by omega, by go_num, by go_num, by rw [HDs.out]; simp; exact HDd.out, HPre.out.1, bel_drewN HW6.out _⟩
              case measure => simp [intOf]; omega
            · have HQ := Lib.hid (show stays tn ack sack f = true by rw [HQQ.out]; unfold told; simp; omega)
              have u1 := dec_f (show ¬ f.seq ≤ ack by omega)
              have u2 := dec_f (show ¬ f.seq - ack ≤ 8 by omega)
              go_upto_region 11 with fail
              have HDs := Lib.hid (show D (k + 1) = D k ++ [f] by rw [HD.out, HD.out, keep_step hlt, ← HFk.out, if_pos HQ.out])
              have HPre := Lib.hid (show D (k + 1) = tl.take (d + 1) ∧ ∃ h : d < tl.length, f = tl[d] by
                have hp : D (k + 1) <+: tl := by
                  rw [← HDE.out, HD.out, HD.out]
                  exact (List.take_prefix_take_left (by omega)).filter _
                rw [HDs.out] at hp
                obtain ⟨t, ht⟩ := hp
                have hdl : (D k).length = d := HDd.out.symm
                have e : tl = D k ++ (f :: t) := by rw [← ht]; simp
                have hlt' : d < tl.length := by rw [e]; simp; omega
                refine ⟨?_, hlt', ?_⟩
                · rw [HDs.out, e, List.take_append, hdl, show d + 1 - d = 1 by omega, List.take_of_length_le (by omega)]; simp
                · have : tl[d]? = some f := by rw [e, List.getElem?_append_right (by omega), hdl, Nat.sub_self]; rfl
                  rw [List.getElem?_eq_getElem hlt'] at this; simpa using this.symm)
              obtain ⟨hdl, hdf⟩ := HPre.out.2
              obtain ⟨b4, o4, rfl, _⟩ := FT.out.open (by omega)
              obtain ⟨d0, d1, d2, d3, d4, d5, d6⟩ := fls_row FT HW6.out d hdl f hdf
              have t3 := dec_f (show ¬ (tl.length : Int) ≤ (d : Int) by omega)
              have t4 : (d : Int) < (tl.length : Int) := by omega
              have t5 : (0 : Int) ≤ (d : Int) := by omega
              clear hdf
              go_wp2_with fail
              go_quiet (fail)
              go_wp2_with fail
              go_roundw
              case rel => exact ⟨k + 1, d + 1, by omega, by go_num, by go_num, by rw [HDs.out]; simp; exact HDd.out, HPre.out.1, bel_drewN HW6.out _⟩
              case measure => simp [intOf]; omega
            · have u1 := dec_f (show ¬ f.seq ≤ ack by omega)
              obtain ⟨bt, hbt⟩ : ∃ bt, bt = bitAt sack (f.seq - ack - 2).toNat := ⟨_, rfl⟩
              have u3 : (bits .and .i64 (sack / 2 ^ (f.seq - ack - 2).toNat) 1 == 1) = bt := by
                rw [and_one, hbt]; unfold bitAt; rw [Bool.eq_iff_iff]; simp
              have HQ2 := Lib.hid (show stays tn ack sack f = !bt by
                rw [HQQ.out]; unfold told
                rw [← hbt, decide_eq_false (show ¬ f.seq ≤ ack by omega), decide_eq_true (show 0 ≤ f.seq - ack - 2 by omega), decide_eq_true (show f.seq - ack - 2 < 7 by omega)]; simp)
              clear hbt
              cases bt
              · have HQ := Lib.hid (show stays tn ack sack f = true by rw [HQ2.out]; rfl)
                go_upto_region 11 with fail
                have HDs := Lib.hid (show D (k + 1) = D k ++ [f] by rw [HD.out, HD.out, keep_step hlt, ← HFk.out, if_pos HQ.out])
                have HPre := Lib.hid (show D (k + 1) = tl.take (d + 1) ∧ ∃ h : d < tl.length, f = tl[d] by
                  have hp : D (k + 1) <+: tl := by
                    rw [← HDE.out, HD.out, HD.out]
                    exact (List.take_prefix_take_left (by omega)).filter _
                  rw [HDs.out] at hp
                  obtain ⟨t, ht⟩ := hp
                  have hdl : (D k).length = d := HDd.out.symm
                  have e : tl = D k ++ (f :: t) := by rw [← ht]; simp
                  have hlt' : d < tl.length := by rw [e]; simp; omega
                  refine ⟨?_, hlt', ?_⟩
                  · rw [HDs.out, e, List.take_append, hdl, show d + 1 - d = 1 by omega, List.take_of_length_le (by omega)]; simp
                  · have : tl[d]? = some f := by rw [e, List.getElem?_append_right (by omega), hdl, Nat.sub_self]; rfl
                    rw [List.getElem?_eq_getElem hlt'] at this; simpa using this.symm)
                obtain ⟨hdl, hdf⟩ := HPre.out.2
                obtain ⟨b4, o4, rfl, _⟩ := FT.out.open (by omega)
                obtain ⟨d0, d1, d2, d3, d4, d5, d6⟩ := fls_row FT HW6.out d hdl f hdf
                have t3 := dec_f (show ¬ (tl.length : Int) ≤ (d : Int) by omega)
                have t4 : (d : Int) < (tl.length : Int) := by omega
                have t5 : (0 : Int) ≤ (d : Int) := by omega
                clear hdf
                go_wp2_with fail
                go_quiet (fail)
                go_wp2_with fail
                go_roundw
                case rel => exact ⟨k + 1, d + 1, by omega, by go_num, by go_num, by rw [HDs.out]; simp; exact HDd.out, HPre.out.1, bel_drewN HW6.out _⟩
                case measure => simp [intOf]; omega
              · have HQ := Lib.hid (show stays tn ack sack f = false by rw [HQ2.out]; rfl)
                go_upto_region 11 with fail
                have HDs := Lib.hid (show D (k + 1) = D k by rw [HD.out, HD.out, keep_step hlt, ← HFk.out, HQ.out]; simp)
                go_wp2_with fail
                go_roundw
                case rel => exact ⟨k + 1, d, by omega, by go_num, rfl, by rw [HDs.out]; exact HDd.out, by rw [HDs.out]; exact HDa.out, HW6.out⟩
                case measure => simp [intOf]; omega
        · have hke : k = l.length := by omega
          subst hke
          have t1 : decide ((l.length : Int) < (l.length : Int)) = false := by simp
          have hd : d = tl.length := by rw [HDd.out, HDE.out]
          subst hd
          have BAr := Lib.hid (chain BA.out HW.out)
          go_wp2_with fail
          go_ret
          exact ⟨rfl, BAr.out⟩

end Go.Proofs.Ytmhfbngielihcaa.lawSendAcks
namespace Go.Proofs.Ytmhfbngielihcaa.lawSendAcks
open Go.ChangeShapes Go.WideShapes Go.RowKit
set_option linter.unusedVariables false
theorem own : ownKnob Try.prog.godebug = none := by kernel_rfl
theorem laidOut : laidOutB Try.prog = true := by kernel_rfl
set_option maxRecDepth 100000 in
theorem lifted (os : Os) (started : os.Started) (H : Type) (enc : TypeId × Value → H) :
    ReturnsInHanded {} Try.checked os 4 .any (Rows.sendAcksSpec.pre6 enc Try.prog Try.f4 Rows.sendAcksRow.domain false) (Rows.sendAcksSpec.post enc Try.prog Try.f4 false true false false) := by
  refine returnsInHanded_of_change (C := Try.checked) own started (by kernel_rfl) Try.func4
    (ChangeSpec.witness6 (enc := enc) (C := Try.checked) false ⟨#[], #[.agg #[.int .i64 0, .slice none 0 0, .int .i64 0, .int .i64 0], .int .i64 0, .int .i64 0, .int .i64 0], []⟩ 8 (by kernel_rfl) (by kernel_rfl) (by kernel_rfl) (by kernel_rfl)) ?_
  intro W base args ds gs before hval0 hW hcnd _
  have hval : ∀ (j : Nat) t v, Try.f4.params[j]? = some t → args[j]? = some v → Value.okWide Try.prog W .any base t v := hval0
  have hW' := hW
  obtain ⟨p, q, hA0, hV, rfl, hfz, hnd⟩ := hW
  have hA : DataW.TrodAll enc Try.prog W 0 (fun _ => true) true Try.f4.params.toList args.toList ds p := hA0
  rw [Try.params4] at hA hval
  obtain ⟨v0, vs0, d0, ds0, p0, q0, hargs, rfl, rfl, h0, r0⟩ := trodAll_cons hA
  obtain ⟨v1, vs1, d1, ds1, p1, q1, rfl, rfl, rfl, h1, r1⟩ := trodAll_cons r0
  obtain ⟨v2, vs2, d2, ds2, p2, q2, rfl, rfl, rfl, h2, r2⟩ := trodAll_cons r1
  obtain ⟨v3, vs3, d3, ds3, p3, q3, rfl, rfl, rfl, h3, r3⟩ := trodAll_cons r2
  obtain ⟨rfl, rfl, rfl⟩ := trodAll_nil r3
  obtain rfl : args = #[v0, v1, v2, v3] := by cases args; simp_all
  obtain ⟨rfl, rfl⟩ := trodVars_none hV
  obtain ⟨n0, u0, c0, b0, z0, rfl, f0, w0, -, -⟩ := K.open_sd_arg (hval 0 24 v0 rfl rfl) h0
  have k0 := h0
  have lt0 : ∀ x ∈ p0, x.block < W.heap.size := by obtain ⟨m, hm⟩ := k0; exact DataW.trod_lt m _ _ _ hm
  obtain ⟨a1, rfl, rfl, rfl, w1⟩ := open_int Try.underlying3 (hval 1 3 v1 rfl rfl) h1
  obtain ⟨a2, rfl, rfl, rfl, w2⟩ := open_int Try.underlying3 (hval 2 3 v2 rfl rfl) h2
  obtain ⟨a3, rfl, rfl, rfl, w3⟩ := open_int Try.underlying3 (hval 3 3 v3 rfl rfl) h3
  clear hA0 hval0
  refine (walk n0 u0 c0 b0 z0 a1 a2 a3 W f0 w0 w1 w2 w3).mono fun e W' ⟨he, bel⟩ => ?_
  subst he
  exact ⟨_, rfl, _, _, _, [], _, [], hW', trodAll_mk1 (shut_bool Try.underlying4 _), (trodAll_cons_mk (Below.trod laidOut (by kernel_rfl) (of_decide_eq_true (by kernel_rfl)) k0 bel lt0) (trodAll_cons_mk (shut_int Try.underlying3 w1) (trodAll_cons_mk (shut_int Try.underlying3 w2) (trodAll_cons_mk (shut_int Try.underlying3 w3) trodAll_mk0)))), rfl, bel.frame _, fun h => by cases h⟩
theorem over : Rows.sendAcksRow.holds Try.pinned (OpenSpec.ofChange Rows.sendAcksSpec) :=
  OpenClaim.holds_of_wide 4 Try.f4 rfl rfl rfl rfl rfl rfl rfl ⟨rfl, rfl, rfl, rfl, rfl⟩ rfl rfl rfl rfl rfl (by kernel_rfl) Try.func4 (by kernel_rfl)
    (of_decide_eq_true (by kernel_rfl)) (by unfold Func.isWrapper; first | (rw [if_pos (by decide +kernel)]; kernel_rfl) | (rw [if_neg (by decide +kernel)]; exact ⟨rfl, rfl⟩))
    (fun os started H enc _ => lifted os started H enc)
/-- THE STATEMENT -/
theorem proved : Rows.SendAcksSaid := over
end Go.Proofs.Ytmhfbngielihcaa.lawSendAcks
#print axioms Go.Proofs.Ytmhfbngielihcaa.lawSendAcks.proved
