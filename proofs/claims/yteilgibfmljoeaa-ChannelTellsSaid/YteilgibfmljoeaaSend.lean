/-
  CONTRACTS of the functions of package send: Start, Clone, own, fits, told, Room, Lost.
-/
import Derived.Test.YteilgibfmljoeaaProg
import Derived.Test.YteilgibfmljoeaaSl
import Derived.Test.YteilgibfmljoeaaSendFns
import Derived.Deep.RegionHeld3
import Derived.Deep.RegionWith
set_option linter.unusedVariables false
set_option linter.unusedSimpArgs false
namespace Nj
open Go Go.RowKit
def Nt.cells (n : Nt) : List Value := [.int .i64 n.user, .int .i64 n.ver, .int .i64 n.stat, .int .i64 n.cnt]
def Fl.cells (f : Fl) : List Value := [.int .i64 f.seq, .int .i64 f.note.user, .int .i64 f.note.ver, .int .i64 f.note.stat, .int .i64 f.note.cnt, .int .i64 f.at_, .int .i64 f.tries]
theorem fl_seven (f : Fl) : f.cells.length = 7 := rfl
theorem fl_cells_one (l : List Fl) : ∀ u ∈ flat Fl.cells l, u.oneCell' = true := by
  intro u hu
  simp only [flat, List.mem_flatMap, Fl.cells, List.mem_cons, List.not_mem_nil, or_false] at hu
  obtain ⟨b, _, rfl | rfl | rfl | rfl | rfl | rfl | rfl⟩ := hu <;> rfl
/-- v is a slice of these flights -/
def Fls (w : World) (v : Value) (l : List Fl) : Prop := Sl 7 w v l.length (flat Fl.cells l)
theorem fls_shape {w : World} {v : Value} {l : List Fl} (h : Fls w v l) : ∃ p cap, v = .slice p l.length cap ∧ l.length ≤ cap := by
  obtain ⟨_, _, p, cap, rfl, hcap, _⟩ := h
  exact ⟨p, cap, rfl, hcap⟩
theorem fls_keep {w w' : World} {v : Value} {l : List Fl} (h : Hid (Fls w v l)) (hb : Hid (Below w.heap.size w w')) : Hid (Fls w' v l) := Lib.hid (h.out.keep (by decide) hb.out)
/-- element i's cells, in a later world -/
theorem fls_at {w w' : World} {b o cap : Nat} {l : List Fl} {n : Nat} (h : Hid (Fls w (.slice (some ⟨b, o, none⟩) n cap) l)) (hb : Below w.heap.size w w') (i : Nat) (hi : i < l.length) (j : Nat) (u : Value) (hu : l[i].cells[j]? = some u) :
    w'.cell? ⟨b, o + (i * 7 + j), none⟩ = some u := by
  have hj : j < 7 := by
    rcases Nat.lt_or_ge j 7 with h | h
    · exact h
    · rw [List.getElem?_eq_none (by rw [fl_seven]; exact h)] at hu; cases hu
  exact Sl.elem fl_seven (h.out.keep (by decide) hb) i j hi hj u hu
/-- all seven cells of element i, in a later world, as the walk spells their addresses -/
theorem fls_row {w w' : World} {b o cap : Nat} {l : List Fl} {n : Nat} (h : Hid (Fls w (.slice (some ⟨b, o, none⟩) n cap) l)) (hb : Below w.heap.size w w') (i : Nat) (hi : i < l.length) (f : Fl) (hf : f = l[i]) :
    w'.cell? ⟨b, o + i * 7, none⟩ = some (.int .i64 f.seq) ∧ w'.cell? ⟨b, o + i * 7 + 1, none⟩ = some (.int .i64 f.note.user) ∧ w'.cell? ⟨b, o + i * 7 + 2, none⟩ = some (.int .i64 f.note.ver) ∧ w'.cell? ⟨b, o + i * 7 + 3, none⟩ = some (.int .i64 f.note.stat) ∧
      w'.cell? ⟨b, o + i * 7 + 4, none⟩ = some (.int .i64 f.note.cnt) ∧ w'.cell? ⟨b, o + i * 7 + 5, none⟩ = some (.int .i64 f.at_) ∧ w'.cell? ⟨b, o + i * 7 + 6, none⟩ = some (.int .i64 f.tries) := by
  subst hf
  exact ⟨fls_at h hb i hi 0 _ rfl, fls_at h hb i hi 1 _ rfl, fls_at h hb i hi 2 _ rfl, fls_at h hb i hi 3 _ rfl, fls_at h hb i hi 4 _ rfl, fls_at h hb i hi 5 _ rfl, fls_at h hb i hi 6 _ rfl⟩
end Nj
namespace Nj
open Go
theorem and_one (x : Int) : bits .and .i64 x 1 = x % 2 := by
  show IntKind.i64.wrap ((BitVec.ofInt 64 x &&& BitVec.ofInt 64 1).toNat : Int) = _
  have h1 : (BitVec.ofInt 64 1).toNat = 1 := by decide
  rw [BitVec.toNat_and, h1, Nat.and_one_is_mod, BitVec.toNat_ofInt, IntKind.wrap_i64]
  have h2 : ((x % ((2 ^ 64 : Nat) : Int)).toNat : Int) = x % 18446744073709551616 := by
    rw [Int.toNat_of_nonneg (Int.emod_nonneg _ (by decide))]; rfl
  omega
end Nj
namespace Go.Proofs.Yteilgibfmljoeaa.K
open Go Go.RowKit Nj

theorem fclone_any (v : Value) (l : List Fl) (w : World) (h : Fls w v l) (hle : l.length ≤ 1048576) :
    Calls Try.prog 29 #[v] w fun e w' => ∃ p cap, e = .returned (.slice p l.length cap) ∧ Hid (Own 40 7 w.heap.size w' (.slice p l.length cap) l.length (flat Fl.cells l)) ∧ Hid (Below w.heap.size w w') := by
  have HS := Lib.hid h
  obtain ⟨p, cap, rfl, hcap⟩ := fls_shape h
  clear h
  have heq := fun w => Lib.run_eql_slice_nil (P := Try.prog) w 22 40 p l.length cap 0 0 Try.underlying22
  cases p with
  | none =>
    have h0 : l = [] := by
      cases l with
      | nil => rfl
      | cons a l => obtain ⟨b, o, h, _⟩ := HS.out.open (by simp); cases h
    subst h0
    simp only [List.length_nil] at heq
    go_enter Try.func29, Try.ntmps29
    go_wp2_with fail
    go_ret
    exact ⟨none, 0, rfl, Lib.hid (own_nil _ _ _ _), Lib.hid (Below.refl _ _)⟩
  | some ad =>
    have HC := Lib.hid (Sl.news (by decide) (HS.out.keep (w' := w.alloc (.cells #[] 40)) (by decide) ((Below.refl _ _).alloc (Nat.le_refl _) _)))
    go_enter Try.func29, Try.ntmps29
    go_wp2_with (at_builtin; refine wpList_app rfl (.tmp 5) (.tmp 6) 22 rfl w.heap.size 40 (.agg #[.int .i64 0, .int .i64 0, .int .i64 0, .int .i64 0, .int .i64 0, .int .i64 0, .int .i64 0]) 7 56 Try.underlying22 (by kernel_rfl) rfl (by decide) w.heap.size w (Lib.hid ((Below.refl _ _).alloc (Nat.le_refl _) _)) (Nat.le_refl _) (Lib.hid (own_empty _ _ _ _ _ rfl (Nat.le_refl _))) rfl ad l.length cap rfl (flat Fl.cells l) (flat_length fl_seven l) HC (fl_cells_one l) (by omega) (by omega) (by simp) ?_; intro p1 cap1 w1 hc1 HO1 HB1 HK1; simp only [Nat.zero_add, List.nil_append] at HO1 hc1)
    go_ret
    exact ⟨p1, cap1, rfl, HO1, HB1⟩

theorem sstart_any (w : World) : Calls Try.prog 35 #[] w fun e w' => e = .returned (.agg #[.int .i64 1, .slice none 0 0, .int .i64 1, .int .i64 0]) ∧ Hid (Below w.heap.size w w') := by
  go_enter Try.func35, Try.ntmps35
  go_wp2_with fail
  exact bodyPost_ret (v := .agg #[.int .i64 1, .slice none 0 0, .int .i64 1, .int .i64 0]) (by simp [results, Try.results35, go_sem]) rfl ⟨rfl, Lib.hid (by (repeat (first | (with_reducible exact Below.refl _ _) | (with_reducible refine bel_set (by first | omega | (simp; done) | (simp; omega)) ?_) | (with_reducible refine bel_alloc (by first | omega | (simp; done) | (simp; omega)) ?_) | (with_reducible refine bel_drew ?_) | (with_reducible refine bel_drewN ?_ _))); first | done | fail "left")⟩

theorem sown_any (n : Int) (v : Value) (c a : Int) (l : List Fl) (w : World) (h : Fls w v l) (hle : l.length ≤ 1048576) :
    Calls Try.prog 50 #[.agg #[.int .i64 n, v, .int .i64 c, .int .i64 a]] w fun e w' => ∃ p cap, e = .returned (.agg #[.int .i64 n, .slice p l.length cap, .int .i64 c, .int .i64 a]) ∧ Hid (Own 40 7 w.heap.size w' (.slice p l.length cap) l.length (flat Fl.cells l)) ∧ Hid (Below w.heap.size w w') := by
  have HS := Lib.hid h
  obtain ⟨p, cap, rfl, hcap⟩ := fls_shape h
  clear h
  go_enter Try.func50, Try.ntmps50
  go_wp2_with fail
  refine (fclone_any _ l _ (HS.out.keep (by decide) (((Below.refl w.heap.size w).alloc (Nat.le_refl _) _).alloc (by simp) _)) hle).mono ?_
  rintro e w1 ⟨p1, cap1, rfl, HO1, HB1⟩
  obtain ⟨h1, h2, hsz, hbw⟩ := blocks2 HB1.out
  have HO := Lib.hid (show Own 40 7 (w.heap.size + 2) w1 (.slice p1 l.length cap1) l.length (flat Fl.cells l) by simpa using HO1.out)
  have HB := Lib.hid hbw
  have c1 := cell_of_block h1
  have f1 := frozen_of_block h1
  have c2 := cell_of_block h2
  have f2 := frozen_of_block h2
  clear h1 h2 hbw HO1 HB1
  go_wp2_with fail
  refine bodyPost_ret (v := .agg #[.int .i64 n, .slice p1 l.length cap1, .int .i64 c, .int .i64 a]) (by simp [results, Try.results50, go_sem, c2]) rfl ⟨p1, cap1, rfl, Lib.hid ?_, Lib.hid (by have hbsz := Below.size (HB.out); (repeat (first | (with_reducible exact HB.out) | (with_reducible refine bel_set (by first | omega | (simp; done) | (simp; omega)) ?_) | (with_reducible refine bel_alloc (by first | omega | (simp; done) | (simp; omega)) ?_) | (with_reducible refine bel_drew ?_) | (with_reducible refine bel_drewN ?_ _))); first | done | fail "left")⟩
  exact Own.mono (B := w.heap.size + 2) (by (repeat (first | (with_reducible exact HO.out) | (with_reducible refine Own.set ?_ _ _ (by first | omega | (simp; done) | (simp; omega))) | (with_reducible refine Own.alloc ?_ _) | (with_reducible refine Own.drew ?_) | (with_reducible refine Own.drewN ?_ _))); first | done | fail "left") (by omega)

set_option maxHeartbeats 1000000 in
theorem fits_any (f : Fl) (last next : Int) (w : World) (hl : 0 ≤ last) (hn : next ≤ 9223372036854775807) :
    Calls Try.prog 48 #[.agg #[.int .i64 f.seq, .int .i64 f.note.user, .int .i64 f.note.ver, .int .i64 f.note.stat, .int .i64 f.note.cnt, .int .i64 f.at_, .int .i64 f.tries], .int .i64 last, .int .i64 next] w fun e w' => e = .returned (.bool (flFits f last next)) ∧ Hid (Below w.heap.size w w') := by
  go_enter Try.func48, Try.ntmps48
  go_wp2_with fail
  all_goals go_ret
  all_goals exact ⟨ret_bool (by simp_all [flFits]; try omega), Lib.hid ((Below.refl _ _).alloc (Nat.le_refl _) _)⟩

set_option maxHeartbeats 1000000 in
theorem told_any (seq ack sack : Int) (w : World) (h0 : 0 ≤ seq) (h1 : seq ≤ 1073741824) (h2 : 0 ≤ ack) (h3 : ack ≤ 1073741824) :
    Calls Try.prog 53 #[.int .i64 seq, .int .i64 ack, .int .i64 sack] w fun e w' => e = .returned (.bool (told seq ack sack)) ∧ w = w' := by
  by_cases hk : ¬ seq ≤ ack ∧ 0 ≤ seq - ack - 2 ∧ seq - ack - 2 < 7
  · obtain ⟨k1, k2, k3⟩ := hk
    go_enter Try.func53, Try.ntmps53
    go_wp2_with fail
    go_ret
    refine ⟨ret_bool ?_, rfl⟩
    rw [and_one]
    unfold told bitAt
    rw [decide_eq_false (show ¬ seq ≤ ack by omega), decide_eq_true (show 0 ≤ seq - ack - 2 by omega), decide_eq_true (show seq - ack - 2 < 7 by omega), Bool.eq_iff_iff]
    simp
  · go_enter Try.func53, Try.ntmps53
    go_wp2_with fail
    all_goals go_ret
    all_goals refine ⟨ret_bool ?_, rfl⟩
    all_goals (simp [told]; try omega)

theorem fls_off {B : Nat} {w w' : World} {v : Value} {l : List Fl} (h : Fls w v l) (hb : Below w.heap.size w w') : Fls w' v l := h.keep (by decide) hb

set_option maxHeartbeats 1000000 in
/-- Room of a Send whose first number is not far behind the next one -/
theorem sroom_any (n : Int) (v : Value) (c a : Int) (l : List Fl) (w : World) (h : Fls w v l) (hn : 0 ≤ n ∧ n ≤ 1073741824) (hc : 0 ≤ c ∧ c ≤ 8) (hl : l.length ≤ 1000) (hf : ∀ f ∈ l, 0 ≤ f.seq ∧ f.seq ≤ 1073741824) :
    Calls Try.prog 34 #[.agg #[.int .i64 n, v, .int .i64 c, .int .i64 a]] w fun e w' => e = .returned (.int .i64 (sdRoom ⟨n, l, c, a⟩)) ∧ Hid (Below w.heap.size w w') := by
  have HS := Lib.hid h
  obtain ⟨p, cap, rfl, hcap⟩ := fls_shape h
  clear h
  obtain ⟨hn0, hn1⟩ := hn
  obtain ⟨hc0, hc1⟩ := hc
  by_cases h0 : l.length = 0
  · have hl0 : l = [] := List.length_eq_zero_iff.1 h0
    subst hl0
    simp only [List.length_nil]
    go_enter Try.func34, Try.ntmps34
    go_wp2_with fail
    all_goals go_ret
    all_goals refine ⟨ret_int ?_, Lib.hid ((Below.refl _ _).alloc (Nat.le_refl _) _)⟩
    all_goals (simp [sdRoom, sdSpan]; try omega)
  · have hpos : 0 < l.length := by omega
    obtain ⟨b, o, rfl, _⟩ := HS.out.open hpos
    have t1 : (0 : Int) < (l.length : Int) := by omega
    obtain ⟨f0, hf0⟩ : ∃ f, f = l[0] := ⟨_, rfl⟩
    have HF := Lib.hid hf0
    have hfb := hf f0 (by rw [hf0]; simp)
    obtain ⟨g0, g1⟩ := hfb
    have HR := Lib.hid (show sdRoom ⟨n, l, c, a⟩ = max (min (min (c - l.length) (8 - (n - f0.seq))) (1073741824 - n)) 0 by
      cases l with
      | nil => simp at hpos
      | cons x l => simp only [List.getElem_cons_zero] at hf0; subst hf0; rfl)
    have HC := Lib.hid (fun (w' : World) (hb : Below w.heap.size w w') => (show w'.cell? ⟨b, o, none⟩ = some (.int .i64 f0.seq) from by
      have := fls_at HS hb 0 hpos 0 (.int .i64 f0.seq) (by rw [← hf0]; rfl)
      simpa using this))
    clear hf0 hf h0
    go_enter Try.func34, Try.ntmps34
    go_upto_region 3 with fail
    have c0 := fun d => HC.out _ (bel_drewN ((Below.refl _ _).alloc (Nat.le_refl _) (.cells #[.int .i64 n, .slice (some ⟨b, o, none⟩) l.length cap, .int .i64 c, .int .i64 a] 24)) d)
    go_quiet (fail)
    go_wp2_with fail
    all_goals go_ret
    all_goals refine ⟨ret_int ?_, Lib.hid (bel_drewN ((Below.refl _ _).alloc (Nat.le_refl _) _) _)⟩
    all_goals rw [HR.out]
    all_goals omega

set_option maxHeartbeats 1000000 in
theorem slost_any (n : Int) (v : Value) (c a : Int) (l : List Fl) (w : World) (h : Fls w v l) (hle : l.length ≤ 1048576) (hc : 0 ≤ c ∧ c ≤ 8) :
    Calls Try.prog 30 #[.agg #[.int .i64 n, v, .int .i64 c, .int .i64 a]] w fun e w' => ∃ p cap, e = .returned (.agg #[.int .i64 n, .slice p l.length cap, .int .i64 (max (c / 2) 1), .int .i64 0]) ∧ Hid (Own 40 7 w.heap.size w' (.slice p l.length cap) l.length (flat Fl.cells l)) ∧ Hid (Below w.heap.size w w') := by
  have HS := Lib.hid h
  obtain ⟨p, cap, rfl, hcap⟩ := fls_shape h
  clear h
  go_enter Try.func30, Try.ntmps30
  go_wp2_with fail
  refine (sown_any _ _ _ _ l _ (HS.out.keep (by decide) (((Below.refl w.heap.size w).alloc (Nat.le_refl _) _).alloc (by simp) _)) hle).mono ?_
  rintro e w1 ⟨p1, cap1, rfl, HO1, HB1⟩
  obtain ⟨h1, h2, hsz, hbw⟩ := blocks2 HB1.out
  have HO := Lib.hid (show Own 40 7 (w.heap.size + 2) w1 (.slice p1 l.length cap1) l.length (flat Fl.cells l) by simpa using HO1.out)
  have HB := Lib.hid hbw
  have G1 := Lib.hid h1
  have G2 := Lib.hid h2
  have c_G1 := cell_of_block h1
  have f_G1 := frozen_of_block h1
  have c_G2 := cell_of_block h2
  have f_G2 := frozen_of_block h2
  clear h1 h2 hbw HO1 HB1
  obtain ⟨hc0, hc1⟩ := hc
  go_upto_region 2 with fail
  refine gen_wp (fun w2 => Hid (w2.heap[w.heap.size]? = some (.cells #[.int .i64 n, .slice p1 l.length cap1, .int .i64 c, .int .i64 a] 24)) ∧ Hid (w2.heap[(w.heap.size + 1)]? = some (.cells #[.int .i64 0, .slice none 0 0, .int .i64 0, .int .i64 0] 24)) ∧ Hid (Own 40 7 (w.heap.size + 2) w2 (.slice p1 l.length cap1) l.length (flat Fl.cells l)) ∧ Hid (Below w.heap.size w w2) ∧ True) ⟨Lib.hid (by first | (simp [World.setCell, Array.getElem?_modify, G1.out, G2.out]; done) | (simp [World.setCell, Array.getElem?_modify, G1.out, G2.out]; omega) | ((repeat (first | (with_reducible exact G1.out) | (with_reducible exact G2.out) | (with_reducible exact heap_new _ _ _ (by first | rfl | (simp; done))) | (with_reducible refine keepa ?_ _) | (simp [World.setCell, Array.getElem?_modify, G1.out, G2.out]; done))); done)), Lib.hid (by first | (simp [World.setCell, Array.getElem?_modify, G1.out, G2.out]; done) | (simp [World.setCell, Array.getElem?_modify, G1.out, G2.out]; omega) | ((repeat (first | (with_reducible exact G1.out) | (with_reducible exact G2.out) | (with_reducible exact heap_new _ _ _ (by first | rfl | (simp; done))) | (with_reducible refine keepa ?_ _) | (simp [World.setCell, Array.getElem?_modify, G1.out, G2.out]; done))); done)), Lib.hid (by (repeat (first | (with_reducible exact HO.out) | (with_reducible refine Own.set ?_ _ _ (by first | omega | (simp; done) | (simp; omega))) | (with_reducible refine Own.alloc ?_ _) | (with_reducible refine Own.drew ?_) | (with_reducible refine Own.drewN ?_ _))); first | done | fail "left"), Lib.hid (by have hbsz := Below.size (HB.out); (repeat (first | (with_reducible exact HB.out) | (with_reducible refine bel_set (by first | omega | (simp; done) | (simp; omega)) ?_) | (with_reducible refine bel_alloc (by first | omega | (simp; done) | (simp; omega)) ?_) | (with_reducible refine bel_drew ?_) | (with_reducible refine bel_drewN ?_ _))); first | done | fail "left"), trivial⟩ ?_
  clear c_G1 f_G1 c_G2 f_G2
  rintro w2 ⟨G1, G2, HO2, HB2, -⟩
  have c_G1 := cell_of_block G1.out
  have f_G1 := frozen_of_block G1.out
  have c_G2 := cell_of_block G2.out
  have f_G2 := frozen_of_block G2.out
  go_upto_region 3 with fail
  obtain ⟨m, hm⟩ : ∃ m, m = max (c / 2) 1 := ⟨_, rfl⟩
  rw [show (if c / 2 < 1 then 1 else c / 2) = m by omega]
  have HM := Lib.hid hm
  clear hm
  refine gen_wp (fun w3 => Hid (w3.heap[w.heap.size]? = some (.cells #[.int .i64 n, .slice p1 l.length cap1, .int .i64 m, .int .i64 0] 24)) ∧ Hid (w3.heap[(w.heap.size + 1)]? = some (.cells #[.int .i64 0, .slice none 0 0, .int .i64 0, .int .i64 0] 24)) ∧ Hid (Own 40 7 (w.heap.size + 2) w3 (.slice p1 l.length cap1) l.length (flat Fl.cells l)) ∧ Hid (Below w.heap.size w w3) ∧ True) ⟨Lib.hid (by first | (simp [World.setCell, Array.getElem?_modify, G1.out, G2.out]; done) | (simp [World.setCell, Array.getElem?_modify, G1.out, G2.out]; omega) | ((repeat (first | (with_reducible exact G1.out) | (with_reducible exact G2.out) | (with_reducible exact heap_new _ _ _ (by first | rfl | (simp; done))) | (with_reducible refine keepa ?_ _) | (simp [World.setCell, Array.getElem?_modify, G1.out, G2.out]; done))); done)), Lib.hid (by first | (simp [World.setCell, Array.getElem?_modify, G1.out, G2.out]; done) | (simp [World.setCell, Array.getElem?_modify, G1.out, G2.out]; omega) | ((repeat (first | (with_reducible exact G1.out) | (with_reducible exact G2.out) | (with_reducible exact heap_new _ _ _ (by first | rfl | (simp; done))) | (with_reducible refine keepa ?_ _) | (simp [World.setCell, Array.getElem?_modify, G1.out, G2.out]; done))); done)), Lib.hid (by (repeat (first | (with_reducible exact HO2.out) | (with_reducible refine Own.set ?_ _ _ (by first | omega | (simp; done) | (simp; omega))) | (with_reducible refine Own.alloc ?_ _) | (with_reducible refine Own.drew ?_) | (with_reducible refine Own.drewN ?_ _))); first | done | fail "left"), Lib.hid (by have hbsz := Below.size (HB2.out); (repeat (first | (with_reducible exact HB2.out) | (with_reducible refine bel_set (by first | omega | (simp; done) | (simp; omega)) ?_) | (with_reducible refine bel_alloc (by first | omega | (simp; done) | (simp; omega)) ?_) | (with_reducible refine bel_drew ?_) | (with_reducible refine bel_drewN ?_ _))); first | done | fail "left"), trivial⟩ ?_
  clear c_G1 f_G1 c_G2 f_G2
  rintro w3 ⟨G1, G2, HO3, HB3, -⟩
  have c_G1 := cell_of_block G1.out
  have f_G1 := frozen_of_block G1.out
  have c_G2 := cell_of_block G2.out
  have f_G2 := frozen_of_block G2.out
  go_wp2_with fail
  refine bodyPost_ret (v := .agg #[.int .i64 n, .slice p1 l.length cap1, .int .i64 m, .int .i64 0]) (by simp [results, Try.results30, go_sem, c_G2]) rfl ⟨p1, cap1, by rw [HM.out], Lib.hid ?_, Lib.hid (by have hbsz := Below.size (HB3.out); (repeat (first | (with_reducible exact HB3.out) | (with_reducible refine bel_set (by first | omega | (simp; done) | (simp; omega)) ?_) | (with_reducible refine bel_alloc (by first | omega | (simp; done) | (simp; omega)) ?_) | (with_reducible refine bel_drew ?_) | (with_reducible refine bel_drewN ?_ _))); first | done | fail "left")⟩
  exact Own.mono (B := w.heap.size + 2) (by (repeat (first | (with_reducible exact HO3.out) | (with_reducible refine Own.set ?_ _ _ (by first | omega | (simp; done) | (simp; omega))) | (with_reducible refine Own.alloc ?_ _) | (with_reducible refine Own.drew ?_) | (with_reducible refine Own.drewN ?_ _))); first | done | fail "left") (by omega)
end Go.Proofs.Yteilgibfmljoeaa.K
