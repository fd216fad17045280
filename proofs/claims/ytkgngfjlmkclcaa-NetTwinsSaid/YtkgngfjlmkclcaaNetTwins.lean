/-
  THE STATEMENT 'Rows.NetTwinsSaid': nightjarlaw23.NetTwins returns true for every input, and its arguments read afterwards as they read before. No condition.
-/
import Derived.Test.YtkgngfjlmkclcaaNetRead
import Derived.Test.YtkgngfjlmkclcaaNetSmall
import Derived.Test.YtkgngfjlmkclcaaRows
import Derived.Deep.DeepCutAuto
import Derived.Deep.Light
import Derived.ProofKit
import Derived.OpenShut
import Derived.ShutString
import Derived.ChangeOld
import Derived.Below
set_option linter.unusedVariables false
set_option linter.unusedSimpArgs false
namespace Go.Proofs.Ytkgngfjlmkclcaa.lawNetTwins
open Go Go.RowKit Nj K

theorem place_mod (k : Int) {m : Nat} (h : 0 < m) : ((k.tmod m + m).tmod m) = (ntPlace k m : Nat) := by
  unfold ntPlace
  rw [Int.toNat_of_nonneg (Int.emod_nonneg _ (by omega))]
  have q1 := Int.emod_nonneg k (show (m : Int) ≠ 0 by omega)
  have q2 := Int.emod_lt_of_pos k (show (0 : Int) < m by omega)
  have ht : k.tmod m = k % (m : Int) ∨ k.tmod m = k % (m : Int) - m := by
    rw [Int.tmod_eq_emod]
    split
    · left; simp
    · right; simp
  rw [Int.tmod_eq_emod_of_nonneg (by omega)]
  rcases ht with e | e
  · rw [e, Int.add_emod, Int.emod_self, Int.add_zero, Int.emod_emod_of_dvd _ (Int.dvd_refl _), Int.emod_emod_of_dvd _ (Int.dvd_refl _)]
  · rw [show k.tmod m + m = k % (m : Int) by omega, Int.emod_emod_of_dvd _ (Int.dvd_refl _)]

theorem place_last (m : Nat) : ntPlace (-1) (m + 1) = m := by
  unfold ntPlace
  have : (-1 : Int) % (((m + 1 : Nat)) : Int) = m := by
    rw [← Int.add_mul_emod_self_left (-1) (((m + 1 : Nat)) : Int) 1]
    rw [show -1 + (((m + 1 : Nat)) : Int) * 1 = m by omega]
    exact Int.emod_eq_of_lt (by omega) (by omega)
  rw [this]
  simp

set_option maxHeartbeats 8000000 in
theorem walk (v : Value) (l : List Dv) (k : Int) (w : World) (h : DgsF w v l) (wk : (Lit.int .i64 k).wf = true) :
    Calls Try.prog 6 #[v, .int .i64 k] w fun e w' => e = .returned (.bool true) ∧ Below w.heap.size w w' := by
  have HA := Lib.hid h.1
  have HLe := Lib.hid h.2
  obtain ⟨p, cap, rfl, hcap⟩ := dgs_shape h.1
  have hm : l.length ≤ 9223372036854775807 := h.1.1.1
  clear h
  by_cases hlong : l.length < 1 ∨ 63 < l.length
  · have HL := Lib.hid hlong
    clear hlong
    go_enter Try.func6, Try.ntmps6
    go_wp2_with fail
    refine (small23_any _).mono ?_; rintro e w1 ⟨rfl, B1⟩
    go_wp2_with fail
    all_goals first
      | (go_ret; exact ⟨rfl, B1.out⟩)
      | (exfalso; have := HL.out; omega)
  obtain ⟨hl1, hl2⟩ : 1 ≤ l.length ∧ l.length ≤ 63 := by omega
  clear hlong
  obtain ⟨bp, op, rfl, _⟩ := HA.out.1.open (by omega)
  have hkb : -9223372036854775808 ≤ k ∧ k ≤ 9223372036854775807 := by simpa [Lit.wf, show IntKind.i64.min = -9223372036854775808 by decide] using wk
  obtain ⟨i, hi⟩ : ∃ i, i = ntPlace k l.length := ⟨_, rfl⟩
  have hil : i < l.length := by rw [hi]; exact ntPlace_lt k (by omega)
  obtain ⟨x, hx⟩ : ∃ x, x = l[i] := ⟨_, rfl⟩
  have HSe := Lib.hid (show ntSend ⟨[], 0⟩ (l.map Dv.con) = ⟨l.map Dv.con, 0⟩ by
    have := send_empty (l.map Dv.con) (l.map Dv.con).length (Nat.le_refl _)
    rw [List.take_length, List.length_map, show l.length - 64 = 0 by omega] at this
    exact this)
  have HI := Lib.hid hi
  have HX := Lib.hid hx
  have hmem : x ∈ l := by rw [hx]; simp
  have HLx := Lib.hid (show (l.map Dv.con)[i]? = some x.con by rw [List.getElem?_map, List.getElem?_eq_getElem hil, hx]; rfl)
  have HMem := Lib.hid hmem
  have hpl := place_mod k (m := l.length) (by omega)
  rw [← hi] at hpl
  have e1 : decide ((l.length : Int) < 1) = false := dec_f (by omega)
  have e2 : decide ((63 : Int) < (l.length : Int)) = false := dec_f (by omega)
  have t0 : (1 : Int) ≤ (l.length : Int) := by omega
  have t1 : (l.length : Int) ≤ 63 := by omega
  have t2 : (i : Int) < (l.length : Int) := by omega
  have t3 : (0 : Int) ≤ (i : Int) := by omega
  have ht : k.tmod l.length = k % (l.length : Int) ∨ k.tmod l.length = k % (l.length : Int) - l.length := by
    rw [Int.tmod_eq_emod]
    split
    · left; simp
    · right; simp
  have q1 := Int.emod_nonneg k (show (l.length : Int) ≠ 0 by omega)
  have q2 := Int.emod_lt_of_pos k (show (0 : Int) < l.length by omega)
  have h3 : (k.tmod l.length) < l.length := by omega
  have h4 : -(l.length : Int) ≤ k.tmod l.length := by omega
  have h5 : 0 ≤ k.tmod l.length + l.length := by omega
  have HPl := Lib.hid hpl
  have HgP := Lib.hid (show (k.tmod l.length + l.length) % (l.length : Int) = (i : Int) by rw [← HPl.out, Int.tmod_eq_emod_of_nonneg h5])
  clear hx hi hmem hpl ht q1 q2
  go_enter Try.func6, Try.ntmps6
  go_wp2_with fail
  refine (small23_any _).mono ?_; rintro e w1 ⟨rfl, B1⟩
  go_wp2_with fail
  refine (nnew_r _).mono ?_; rintro e w2 ⟨rfl, N2, B2⟩
  have hz1 := B1.out.size
  have hnb : w1.heap.size < w2.heap.size := netr_box (N2.out 0)
  have BA := Lib.hid (chain B1.out B2.out)
  go_wp2_with fail
  refine (nsend_any w.heap.size w1.heap.size _ _ ⟨[], 0⟩ _ l _ (N2.out w.heap.size) BA.out.size (by decide) (fun W M => HA.out.keep (M.below BA.out BA.out.size (fun b h => h.elim (fun h => h.elim) (fun h => by omega)))) (by omega) (fun d hd => by have := HLe.out d hd; omega) (by simp; omega)).mono ?_
  rintro e w3 ⟨rfl, N3, M3⟩
  replace N3 := Lib.hid (show NetR w.heap.size w1.heap.size (fun b => w.heap.size ≤ b) (fun _ => True) ⟨l.map Dv.con, 0⟩ w3 from by
    have := N3.out
    rw [HSe.out] at this
    exact netr_mono this (fun b h => h.elim (fun h => h.elim) (fun h => by omega)) (fun _ _ => trivial))
  replace BA := Lib.hid (M3.out.below BA.out BA.out.size (fun b h => h.elim (fun h => h.elim) (fun h => by omega)))
  clear M3
  go_wp2_with fail
  refine (ntwice_any w.heap.size w1.heap.size _ _ _ k _ N3.out BA.out.size (by simp; omega) hkb (fun d hd => by
    simp only [List.mem_map] at hd
    obtain ⟨y, hy, rfl⟩ := hd
    have := HLe.out y hy
    show y.bs.length ≤ _
    omega) (by simp)).mono ?_
  rintro e w4 (⟨h, -⟩ | ⟨i', d, hi', hd, rfl, N4, M4⟩)
  case inl => exfalso; simp only [List.length_map] at h; omega
  have hii : i' = i := by rw [hi', HI.out]; simp only [List.length_map]
  subst hii
  have hdx : d = x.con := by have := hd.symm.trans HLx.out; simpa using this
  subst hdx
  replace N4 := Lib.hid (show NetR w.heap.size w1.heap.size (fun b => w.heap.size ≤ b) (fun _ => True) ⟨l.map Dv.con ++ [x.con], 0⟩ w4 from by
    have := N4.out
    unfold ntSend1 at this
    simp only [List.length_map] at this
    rw [if_pos (by omega)] at this
    exact netr_mono this (fun b h => h.elim id (fun h => by have := BA.out.size; omega)) (fun _ _ => trivial))
  replace BA := Lib.hid (M4.out.below BA.out BA.out.size (fun b h => h.elim id (fun h => by omega)))
  clear M4 hi' hd N2 N3 B1 B2
  go_upto_region 10 with fail
  rw [HgP.out]
  have HFl := Lib.hid (flat_length dv_three l)
  have BZ0 := Lib.hid (Below.refl w4.heap.size w4)
  have HNl := Lib.hid (show ∀ W, Below w4.heap.size w4 W → ∀ j u, (flat Dv.cells l)[j]? = some u → W.cell? ((⟨bp, op, none⟩ : Addr).add j) = some u from fun W B => Sl.news (by decide) (Sl.keep (by decide) (Sl.keep (by decide) HA.out.1 BA.out) B))
  have HRx := Lib.hid (fun W (B : Below w4.heap.size w4 W) => dsl_row (Sl.keep (by decide) (Sl.keep (by decide) HA.out.1 BA.out) B) i' hil x HX.out)
  obtain ⟨q0, q1', q2'⟩ := HRx.out w4 (Below.refl _ _)
  have hbl : bp < w4.heap.size := cell_lt q0
  go_region_held3 (fun w' => w'.cell? ⟨bp, op + i' * 3, none⟩ = some (.int .i64 x.fr) ∧ w'.cell? ⟨bp, op + i' * 3 + 1, none⟩ = some (.int .i64 x.tt) ∧ w'.cell? ⟨bp, op + i' * 3 + 2, none⟩ = some (.slice x.p x.bs.length x.cap)) (go_keep)
    ((first
      | (refine step_app (v := .slice (some ⟨w4.heap.size, 0, none⟩) 0 0) (n := 0) (cells := []) rfl (.tmp 42) (.tmp 43) 28 rfl w4.heap.size 33 (.agg #[.int .i64 0, .int .i64 0, .slice none 0 0]) 3 40 Try.underlying28 (by kernel_rfl) rfl (by decide) w4.heap.size w4 (Lib.hid (by (repeat (first | (with_reducible exact Below.refl _ _) | (with_reducible refine bel_set (by first | omega | (simp; done) | (simp; omega)) ?_) | (with_reducible refine bel_alloc (by first | omega | (simp; done) | (simp; omega)) ?_) | (with_reducible refine bel_drew ?_) | (with_reducible refine bel_drewN ?_ _))); first | done | fail "left")) (Nat.le_refl _) (Lib.hid (by (repeat (first | (with_reducible exact own_empty _ _ _ w4 w4.heap.size rfl (Nat.le_refl _)) | (with_reducible refine Own.set ?_ _ _ (by first | omega | (simp; done) | (simp; omega))) | (with_reducible refine Own.alloc ?_ _) | (with_reducible refine Own.drew ?_) | (with_reducible refine Own.drewN ?_ _))); first | done | fail "left")) (by simp [Act.eval, Act.put]) ⟨bp, op, none⟩ l.length cap (by simp [Act.eval, Act.put]) (flat Dv.cells l) HFl.out (Lib.hid (HNl.out _ (by have hbsz := Below.size (BZ0.out); (repeat (first | (with_reducible exact BZ0.out) | (with_reducible refine bel_set (by first | omega | (simp; done) | (simp; omega)) ?_) | (with_reducible refine bel_alloc (by first | omega | (simp; done) | (simp; omega)) ?_) | (with_reducible refine bel_drew ?_) | (with_reducible refine bel_drewN ?_ _))); first | done | fail "left"))) (dv_cells_one _) (by omega) (by omega) (by first | (simp; done) | (simp; omega)) ?_; intro p5 cap5 w5 hc5 O5 B5 K5; simp only [Nat.zero_add, List.nil_append] at O5 hc5; obtain ⟨s0, s1, s2⟩ := HRx.out w5 B5.out; have hz5 := B5.out.size)
      | (refine step_app (v := .slice (some ⟨w4.heap.size + 1, 0, none⟩) 0 0) (n := 0) (cells := []) rfl (.tmp 42) (.tmp 43) 28 rfl w4.heap.size 33 (.agg #[.int .i64 0, .int .i64 0, .slice none 0 0]) 3 40 Try.underlying28 (by kernel_rfl) rfl (by decide) w4.heap.size w4 (Lib.hid (by (repeat (first | (with_reducible exact Below.refl _ _) | (with_reducible refine bel_set (by first | omega | (simp; done) | (simp; omega)) ?_) | (with_reducible refine bel_alloc (by first | omega | (simp; done) | (simp; omega)) ?_) | (with_reducible refine bel_drew ?_) | (with_reducible refine bel_drewN ?_ _))); first | done | fail "left")) (Nat.le_refl _) (Lib.hid (by (repeat (first | (with_reducible exact own_empty _ _ _ (w4.alloc (.cells #[.int .i64 x.fr, .int .i64 x.tt, .slice x.p x.bs.length x.cap] 33)) (w4.heap.size + 1) (by simp) (by simp)) | (with_reducible refine Own.set ?_ _ _ (by first | omega | (simp; done) | (simp; omega))) | (with_reducible refine Own.alloc ?_ _) | (with_reducible refine Own.drew ?_) | (with_reducible refine Own.drewN ?_ _))); first | done | fail "left")) (by simp [Act.eval, Act.put]) ⟨bp, op, none⟩ l.length cap (by simp [Act.eval, Act.put]) (flat Dv.cells l) HFl.out (Lib.hid (HNl.out _ (by have hbsz := Below.size (BZ0.out); (repeat (first | (with_reducible exact BZ0.out) | (with_reducible refine bel_set (by first | omega | (simp; done) | (simp; omega)) ?_) | (with_reducible refine bel_alloc (by first | omega | (simp; done) | (simp; omega)) ?_) | (with_reducible refine bel_drew ?_) | (with_reducible refine bel_drewN ?_ _))); first | done | fail "left"))) (dv_cells_one _) (by omega) (by omega) (by first | (simp; done) | (simp; omega)) ?_; intro p5 cap5 w5 hc5 O5 B5 K5; simp only [Nat.zero_add, List.nil_append] at O5 hc5; obtain ⟨s0, s1, s2⟩ := HRx.out w5 B5.out; have hz5 := B5.out.size)
      | (refine step_app (v := .slice p5 l.length cap5) (n := l.length) (cells := flat Dv.cells l) rfl (.tmp 44) (.tmp 49) 28 rfl w4.heap.size 33 (.agg #[.int .i64 0, .int .i64 0, .slice none 0 0]) 3 40 Try.underlying28 (by kernel_rfl) rfl (by decide) w4.heap.size w4 (Lib.hid (by have hbsz := Below.size (B5.out); (repeat (first | (with_reducible exact B5.out) | (with_reducible refine bel_set (by first | omega | (simp; done) | (simp; omega)) ?_) | (with_reducible refine bel_alloc (by first | omega | (simp; done) | (simp; omega)) ?_) | (with_reducible refine bel_drew ?_) | (with_reducible refine bel_drewN ?_ _))); first | done | fail "left")) (Nat.le_refl _) (Lib.hid (by (repeat (first | (with_reducible exact O5.out) | (with_reducible refine Own.set ?_ _ _ (by first | omega | (simp; done) | (simp; omega))) | (with_reducible refine Own.alloc ?_ _) | (with_reducible refine Own.drew ?_) | (with_reducible refine Own.drewN ?_ _))); first | done | fail "left")) (by simp [Act.eval, Act.put]) ⟨w5.heap.size, 0, none⟩ 1 1 (by simp [Act.eval, Act.put]) [.int .i64 x.fr, .int .i64 x.tt, .slice x.p x.bs.length x.cap] rfl (Lib.hid (news_new (w := w5.alloc (.cells #[.int .i64 x.fr, .int .i64 x.tt, .slice x.p x.bs.length x.cap] 33)) (heap_new w5 _ _ rfl))) (by simp [Value.oneCell']) (by omega) (by omega) (by first | omega | (simp; omega)) ?_; intro p6 cap6 w6 hc6 O6 B6 K6; obtain ⟨s0, s1, s2⟩ := HRx.out w6 B6.out)
      | (refine step_app (v := .slice p5 l.length cap5) (n := l.length) (cells := flat Dv.cells l) rfl (.tmp 44) (.tmp 49) 28 rfl w4.heap.size 33 (.agg #[.int .i64 0, .int .i64 0, .slice none 0 0]) 3 40 Try.underlying28 (by kernel_rfl) rfl (by decide) w4.heap.size w4 (Lib.hid (by have hbsz := Below.size (B5.out); (repeat (first | (with_reducible exact B5.out) | (with_reducible refine bel_set (by first | omega | (simp; done) | (simp; omega)) ?_) | (with_reducible refine bel_alloc (by first | omega | (simp; done) | (simp; omega)) ?_) | (with_reducible refine bel_drew ?_) | (with_reducible refine bel_drewN ?_ _))); first | done | fail "left")) (Nat.le_refl _) (Lib.hid (by (repeat (first | (with_reducible exact O5.out) | (with_reducible refine Own.set ?_ _ _ (by first | omega | (simp; done) | (simp; omega))) | (with_reducible refine Own.alloc ?_ _) | (with_reducible refine Own.drew ?_) | (with_reducible refine Own.drewN ?_ _))); first | done | fail "left")) (by simp [Act.eval, Act.put]) ⟨w4.heap.size + 1, 0, none⟩ 1 1 (by simp [Act.eval, Act.put]) [.int .i64 x.fr, .int .i64 x.tt, .slice x.p x.bs.length x.cap] rfl (Lib.hid (news_new (K5.out (w4.heap.size + 1) (.cells #[.int .i64 x.fr, .int .i64 x.tt, .slice x.p x.bs.length x.cap] 33) (show (World.heap _)[w4.heap.size + 1]? = _ from heap_new (w4.alloc (.cells #[] 33)) _ _ (by simp)) (fun b e => by have e1 : w4.heap.size = b := (by simpa [Value.ownBlock] using e); omega)))) (by simp [Value.oneCell']) (by omega) (by omega) (by first | omega | (simp; omega)) ?_; intro p6 cap6 w6 hc6 O6 B6 K6; obtain ⟨s0, s1, s2⟩ := HRx.out w6 B6.out)
      | (refine step_app (v := .slice p5 l.length cap5) (n := l.length) (cells := flat Dv.cells l) rfl (.tmp 44) (.tmp 49) 28 rfl w4.heap.size 33 (.agg #[.int .i64 0, .int .i64 0, .slice none 0 0]) 3 40 Try.underlying28 (by kernel_rfl) rfl (by decide) w4.heap.size w4 (Lib.hid (by have hbsz := Below.size (B5.out); (repeat (first | (with_reducible exact B5.out) | (with_reducible refine bel_set (by first | omega | (simp; done) | (simp; omega)) ?_) | (with_reducible refine bel_alloc (by first | omega | (simp; done) | (simp; omega)) ?_) | (with_reducible refine bel_drew ?_) | (with_reducible refine bel_drewN ?_ _))); first | done | fail "left")) (Nat.le_refl _) (Lib.hid (by (repeat (first | (with_reducible exact O5.out) | (with_reducible refine Own.set ?_ _ _ (by first | omega | (simp; done) | (simp; omega))) | (with_reducible refine Own.alloc ?_ _) | (with_reducible refine Own.drew ?_) | (with_reducible refine Own.drewN ?_ _))); first | done | fail "left")) (by simp [Act.eval, Act.put]) ⟨w4.heap.size, 0, none⟩ 1 1 (by simp [Act.eval, Act.put]) [.int .i64 x.fr, .int .i64 x.tt, .slice x.p x.bs.length x.cap] rfl (Lib.hid (news_new (K5.out w4.heap.size (.cells #[.int .i64 x.fr, .int .i64 x.tt, .slice x.p x.bs.length x.cap] 33) (show (World.heap _)[w4.heap.size]? = _ from keepa (heap_new w4 (.cells #[.int .i64 x.fr, .int .i64 x.tt, .slice x.p x.bs.length x.cap] 33) _ rfl) _) (fun b e => by have e1 : w4.heap.size + 1 = b := (by simpa [Value.ownBlock] using e); omega)))) (by simp [Value.oneCell']) (by omega) (by omega) (by first | omega | (simp; omega)) ?_; intro p6 cap6 w6 hc6 O6 B6 K6; obtain ⟨s0, s1, s2⟩ := HRx.out w6 B6.out)
      | fail))
  all_goals
    have BW := Lib.hid (chain BA.out B6.out)
    have N6 := Lib.hid (netr_keep N4.out B6.out)
    have HWa := Lib.hid (show ∀ W, Below w6.heap.size w6 W → Dgs W (.slice p6 (l.length + 1) cap6) (l ++ [x]) from fun W B => by
      refine ⟨?_, fun y hy => ?_⟩
      · have h1 := (O6.out.keep B).sl
        rw [List.length_append, flat_append]
        exact h1
      · have hy' : y ∈ l := (List.mem_append.1 hy).elim id (fun h => by simp only [List.mem_singleton] at h; subst h; exact HMem.out)
        exact ((HA.out.2 y hy').keep BW.out).keep B)
    clear BA N4 B5 O5 K5 B6 O6 K6
    go_wp2_with fail
    refine (nall_any _ _ _ _ _ _ N6.out (by simp; omega) (fun d hd => by
      rcases List.mem_append.1 hd with hd | hd
      · simp only [List.mem_map] at hd
        obtain ⟨y, hy, rfl⟩ := hd
        have := HLe.out y hy
        show y.bs.length ≤ _
        omega
      · simp only [List.mem_singleton] at hd
        subst hd
        have := HLe.out x HMem.out
        show x.bs.length ≤ _
        omega)).mono ?_
    rintro e w7 ⟨pA, cA, dsA, rfl, hdA, AD, B7⟩
    have HdA := Lib.hid hdA
    clear hdA
    have hdl : dsA.length ≤ 1048576 := by have := congrArg List.length HdA.out; simp at this; omega
    go_wp2_with fail
    refine (same_any _ _ dsA (l ++ [x]) _ (alld_dgs AD.out) (HWa.out _ B7.out) (by rw [HdA.out]; simp) hdl).mono ?_
    rintro e w8 ⟨rfl, B8⟩
    have N8 := Lib.hid (netr_keep N6.out (chain B7.out B8.out))
    replace BW := Lib.hid (chain BW.out (chain B7.out B8.out))
    clear HWa N6 AD B7 B8
    go_wp2_with fail
    refine (ntake_r _ _ _ _ _ (-1) _ N8.out (by simp; omega) (by decide)).mono ?_
    rintro e w9 (⟨h, -⟩ | ⟨-, d, hd, rfl, N9, OD, -, M9⟩)
    case inl => exfalso; simp at h
    have hpl : ntPlace (-1) (l.map Dv.con ++ [x.con]).length = l.length := by rw [List.length_append, List.length_map]; exact place_last l.length
    have hdx : d.con = x.con := by
      simp only [hpl] at hd
      rw [List.getElem?_append_right (by simp)] at hd
      simpa using hd.symm
    have HDx := Lib.hid hdx
    replace N9 := Lib.hid (show NetR w.heap.size w1.heap.size (fun b => w.heap.size ≤ b) (fun _ => True) ⟨l.map Dv.con, 0⟩ w9 from by
      have := N9.out
      unfold ntTake at this
      simp only [hpl] at this
      rw [List.eraseIdx_append_of_length_le (by simp)] at this
      simp only [List.length_map, Nat.sub_self, List.eraseIdx_cons_zero, List.append_nil] at this
      exact netr_mono this (fun b h => h.elim id (fun h => by have := BW.out.size; omega)) (fun _ _ => trivial))
    replace BW := Lib.hid (M9.out.below BW.out BW.out.size (fun b h => h.elim id (fun h => by omega)))
    clear hd hdx hpl N8 M9
    go_upto_region 13 with fail
    refine gen_wp (fun w10 => Hid (w10.heap[w9.heap.size]? = some (.cells #[.int .i64 d.fr, .int .i64 d.tt, .slice d.p d.bs.length d.cap] 33)) ∧ Hid (Below w9.heap.size w9 w10) ∧ True) ⟨Lib.hid (by first | (simp [World.setCell, Array.getElem?_modify]; done) | (simp [World.setCell, Array.getElem?_modify]; omega) | ((repeat (first | (with_reducible exact heap_new _ _ _ (by first | rfl | (simp; done))) | (with_reducible refine keepa ?_ _) | (simp [World.setCell, Array.getElem?_modify]; done))); done)), Lib.hid (by (repeat (first | (with_reducible exact Below.refl _ _) | (with_reducible refine bel_set (by first | omega | (simp; done) | (simp; omega)) ?_) | (with_reducible refine bel_alloc (by first | omega | (simp; done) | (simp; omega)) ?_) | (with_reducible refine bel_drew ?_) | (with_reducible refine bel_drewN ?_ _))); first | done | fail "left"), trivial⟩ ?_
    rintro w10 ⟨A11, N, -⟩
    have c_A11 := cell_of_block A11.out
    have f_A11 := frozen_of_block A11.out
    have N10 := Lib.hid (netr_keep N9.out N.out)
    replace BW := Lib.hid (chain BW.out N.out)
    have OD10 := Lib.hid (show Bts w10 d from OwnB.bts (Own.keep OD.out N.out))
    have HA10 := Lib.hid (HA.out.keep BW.out)
    have HBx := Lib.hid (HA10.out.2 x HMem.out)
    have HRz := Lib.hid (fun W (B : Below w10.heap.size w10 W) => dsl_row (Sl.keep (by decide) HA10.out.1 B) i' hil x HX.out)
    obtain ⟨q0, q1', q2'⟩ := HRz.out w10 (Below.refl _ _)
    clear N N9 OD
    go_region_held3 (fun w' => w'.cell? ⟨bp, op + i' * 3, none⟩ = some (.int .i64 x.fr) ∧ w'.cell? ⟨bp, op + i' * 3 + 1, none⟩ = some (.int .i64 x.tt) ∧ w'.cell? ⟨bp, op + i' * 3 + 2, none⟩ = some (.slice x.p x.bs.length x.cap) ∧ w'.cell? ⟨w9.heap.size, 0, none⟩ = some (.int .i64 d.fr) ∧ w'.cell? ⟨w9.heap.size, 1, none⟩ = some (.int .i64 d.tt) ∧ w'.cell? ⟨w9.heap.size, 2, none⟩ = some (.slice d.p d.bs.length d.cap)) (go_keep)
      ((first
        | (go_at_call 14; refine (one_any d x _ (show Bts w10.drew d from OD10.out) (show Bts w10.drew x from HBx.out) HDx.out).mono ?_; rintro e wa ⟨rfl, Ba⟩; have BZ := Lib.hid (chain (w := w10.drew) (bel_drew (Below.refl _ _)) Ba.out); obtain ⟨a0, a1, a2⟩ := HRz.out _ BZ.out; have aA := cell_of_block (keepb A11.out BZ.out))
        | (go_at_call 19; refine (nall_any _ _ _ _ _ _ (netr_keep N10.out BZ.out) (by simp; omega) (fun y hy => by simp only [List.mem_map] at hy; obtain ⟨z, hz, rfl⟩ := hy; have := HLe.out z hz; show z.bs.length ≤ _; omega)).mono ?_; rintro e wf ⟨pB, cB, dsB, rfl, hdB, AD, BF⟩; have HdB := Lib.hid hdB; clear hdB; have BZ2 := Lib.hid (chain BZ.out BF.out); obtain ⟨b0, b1, b2⟩ := HRz.out _ BZ2.out; have bA := cell_of_block (keepb A11.out BZ2.out))
        | (go_at_call 20; refine (same_any _ _ dsB l _ (alld_dgs AD.out) (HA10.out.keep BZ2.out) HdB.out (by have := congrArg List.length HdB.out; simp at this; omega)).mono ?_; rintro e wg ⟨rfl, BG⟩; have BZ3 := Lib.hid (chain BZ2.out BG.out); obtain ⟨c0, c1, c2⟩ := HRz.out _ BZ3.out; have cA := cell_of_block (keepb A11.out BZ3.out))
        | (go_at_call 23; refine (nlost_r _ _ _ _ _ _ (netr_keep N10.out BZ3.out)).mono ?_; rintro e wl ⟨rfl, rfl⟩)
        | fail))
    go_wp2_with fail
    go_ret
    exact ⟨rfl, chain BW.out BZ3.out⟩

end Go.Proofs.Ytkgngfjlmkclcaa.lawNetTwins
namespace Go.Proofs.Ytkgngfjlmkclcaa.lawNetTwins
open Go.ChangeShapes Go.WideShapes Go.RowKit
set_option linter.unusedVariables false
theorem own : ownKnob Try.prog.godebug = none := by kernel_rfl
theorem laidOut : laidOutB Try.prog = true := by kernel_rfl
set_option maxRecDepth 100000 in
theorem lifted (os : Os) (started : os.Started) (H : Type) (enc : TypeId × Value → H) :
    ReturnsInHanded {} Try.checked os 6 .any (Rows.netTwinsSpec.pre6 enc Try.prog Try.f6 Rows.netTwinsRow.domain false) (Rows.netTwinsSpec.post enc Try.prog Try.f6 false true false false) := by
  refine returnsInHanded_of_change_sized (C := Try.checked) own started (by kernel_rfl) Try.func6
    (ChangeSpec.witness6 (enc := enc) (C := Try.checked) false ⟨#[], #[.slice none 0 0, .int .i64 0], []⟩ 8 (by kernel_rfl) (by kernel_rfl) (by kernel_rfl) (by kernel_rfl)) ?_
  intro W base args ds gs before hval0 hW hcnd hsz0 _
  have hsz : (DataW.weightsEach Try.prog (Try.f6.params.toList ++ Rows.netTwinsSpec.plain.varTypes Try.prog) (ds ++ gs)).all (· ≤ reachBytes) = true := hsz0
  clear hsz0
  have hval : ∀ (j : Nat) t v, Try.f6.params[j]? = some t → args[j]? = some v → Value.okWide Try.prog W .any base t v := hval0
  have hW' := hW
  obtain ⟨p, q, hA0, hV, rfl, hfz, hnd⟩ := hW
  have hA : DataW.TrodAll enc Try.prog W 0 (fun _ => true) true Try.f6.params.toList args.toList ds p := hA0
  rw [Try.params6] at hA hval hsz
  obtain ⟨v0, vs0, d0, ds0, p0, q0, hargs, rfl, rfl, h0, r0⟩ := trodAll_cons hA
  obtain ⟨v1, vs1, d1, ds1, p1, q1, rfl, rfl, rfl, h1, r1⟩ := trodAll_cons r0
  obtain ⟨rfl, rfl, rfl⟩ := trodAll_nil r1
  obtain rfl : args = #[v0, v1] := by cases args; simp_all
  obtain ⟨rfl, rfl⟩ := trodVars_none hV
  obtain ⟨a0, len0, cap0, rfl⟩ := okWide_slice Try.underlying28 (hval 0 28 v0 rfl rfl)
  have k0 := h0
  have lt0 : ∀ x ∈ p0, x.block < W.heap.size := by obtain ⟨m, hm⟩ := k0; exact DataW.trod_lt m _ _ _ hm
  have fit0 : Nj.Fit Try.prog 28 d0 := fun n hn => by simpa using List.all_eq_true.1 hsz n (DataW.weights_mem_each (j := 0) rfl rfl n hn)
  obtain ⟨z0, y0, w0⟩ : ∃ l : List Nj.Dv, l.length = len0 ∧ Nj.DgsF W (.slice a0 len0 cap0) l := by
    obtain ⟨fuel, hf⟩ := h0
    exact K.open_dgs hf fit0
  obtain ⟨a1, rfl, rfl, rfl, w1⟩ := open_int Try.underlying3 (hval 1 3 v1 rfl rfl) h1
  clear hA0 hval0
  refine (walk _ z0 a1 W w0 w1).mono fun e W' ⟨he, bel⟩ => ?_
  subst he
  exact ⟨_, rfl, _, _, _, [], _, [], hW', trodAll_mk1 (shut_bool Try.underlying4 _), (trodAll_cons_mk (Below.trod laidOut (by kernel_rfl) (of_decide_eq_true (by kernel_rfl)) k0 bel lt0) (trodAll_cons_mk (shut_int Try.underlying3 w1) trodAll_mk0)), rfl, bel.frame _, fun h => by cases h⟩
theorem over : Rows.netTwinsRow.holds Try.pinned (OpenSpec.ofChange Rows.netTwinsSpec) :=
  OpenClaim.holds_of_wide 6 Try.f6 rfl rfl rfl rfl rfl rfl rfl ⟨rfl, rfl, rfl, rfl, rfl⟩ rfl rfl rfl rfl rfl (by kernel_rfl) Try.func6 (by kernel_rfl)
    (of_decide_eq_true (by kernel_rfl)) (by unfold Func.isWrapper; first | (rw [if_pos (by decide +kernel)]; kernel_rfl) | (rw [if_neg (by decide +kernel)]; exact ⟨rfl, rfl⟩))
    (fun os started H enc _ => lifted os started H enc)
/-- THE STATEMENT -/
theorem proved : Rows.NetTwinsSaid := over
end Go.Proofs.Ytkgngfjlmkclcaa.lawNetTwins
#print axioms Go.Proofs.Ytkgngfjlmkclcaa.lawNetTwins.proved
