/-
  CONTRACTS of nightjarref23: copied, New, place, Len, Lost, Send.
-/
import Derived.Test.YtkgngfjlmkclcaaNet5
set_option linter.unusedVariables false
set_option linter.unusedSimpArgs false
namespace Go.Proofs.Ytkgngfjlmkclcaa.K
open Go Go.RowKit Nj

abbrev NetM (B nb : Nat) (p : Option Addr) (cap : Nat) (ds : List Dv) (g : Int) (w : World) : Prop := NetS 43 33 5 B nb p cap ds g w

theorem qcopied_any (d : Dv) (w : World) (h : Bts w d) (hle : d.bs.length ≤ 140737488355328) :
    Calls Try.prog 26 #[.agg #[.int .i64 d.fr, .int .i64 d.tt, .slice d.p d.bs.length d.cap]] w fun e w' => ∃ p cap, e = .returned (.agg #[.int .i64 d.fr, .int .i64 d.tt, .slice p d.bs.length cap]) ∧ Hid (OwnB 5 w.heap.size w' ⟨d.fr, d.tt, p, cap, d.bs⟩) ∧ Hid (Below w.heap.size w w') := by
  have HS := Lib.hid h
  obtain ⟨fr, tt, p, cap, bs⟩ := d
  simp only at hle ⊢
  clear h
  go_enter Try.func26, Try.ntmps26
  go_upto_region 1 with fail
  refine gen_wp (fun w1 => Hid (w1.heap[w.heap.size]? = some (.cells #[.int .i64 fr, .int .i64 tt, .slice p bs.length cap] 33)) ∧ Hid (w1.heap[(w.heap.size + 1)]? = some (.cells #[.int .i64 0, .int .i64 0, .slice none 0 0] 33)) ∧ Hid (Below w.heap.size w w1) ∧ Hid (w1.heap.size = w.heap.size + 2) ∧ True) ⟨Lib.hid (by first | (simp [World.setCell, Array.getElem?_modify]; done) | (simp [World.setCell, Array.getElem?_modify]; omega) | ((repeat (first | (with_reducible exact heap_new _ _ _ (by first | rfl | (simp; done))) | (with_reducible refine keepa ?_ _) | (simp [World.setCell, Array.getElem?_modify]; done))); done)), Lib.hid (by first | (simp [World.setCell, Array.getElem?_modify]; done) | (simp [World.setCell, Array.getElem?_modify]; omega) | ((repeat (first | (with_reducible exact heap_new _ _ _ (by first | rfl | (simp; done))) | (with_reducible refine keepa ?_ _) | (simp [World.setCell, Array.getElem?_modify]; done))); done)), Lib.hid (by repeat (first | (with_reducible exact Below.refl _ _) | (with_reducible refine bel_set (by first | omega | (simp; done) | (simp; omega)) ?_) | (with_reducible refine bel_alloc (by first | omega | (simp; done) | (simp; omega)) ?_) | (with_reducible refine bel_drew ?_) | (with_reducible refine bel_drewN ?_ _))), Lib.hid (by simp), trivial⟩ ?_
  rintro w1 ⟨A1, A2, BA, SZ, -⟩
  have c_A1 := cell_of_block A1.out
  have f_A1 := frozen_of_block A1.out
  have c_A2 := cell_of_block A2.out
  have f_A2 := frozen_of_block A2.out
  have HS1 := Lib.hid (HS.out.keep BA.out)
  have B1 := Lib.hid (below_alloc w1 (.cells #[] 5))
  have hb1 := block_lt A1.out
  have hb2 := block_lt A2.out
  cases p with
  | none =>
    have h0 : bs = [] := by
      cases bs with
      | nil => rfl
      | cons a l => obtain ⟨b, o, h, _⟩ := Sl.open HS.out (by simp); cases h
    subst h0
    simp only [List.length_nil] at c_A1
    have hap := SZ.out
    go_upto_region 2 with fail
    refine gen_wp (fun w2 => Hid (w2.heap[w.heap.size]? = some (.cells #[.int .i64 fr, .int .i64 tt, .slice (some ⟨w1.heap.size, 0, none⟩) 0 0] 33)) ∧ Hid (w2.heap[(w.heap.size + 1)]? = some (.cells #[.int .i64 0, .int .i64 0, .slice none 0 0] 33)) ∧ Hid (Own 5 1 w1.heap.size w2 (.slice (some ⟨w1.heap.size, 0, none⟩) 0 0) 0 []) ∧ Hid (Below w.heap.size w w2) ∧ True) ⟨Lib.hid (by first | (simp [World.setCell, Array.getElem?_modify, A1.out, A2.out]; done) | (simp [World.setCell, Array.getElem?_modify, A1.out, A2.out]; omega) | ((repeat (first | (with_reducible exact A1.out) | (with_reducible exact A2.out) | (with_reducible exact heap_new _ _ _ (by first | rfl | (simp; done))) | (with_reducible refine keepa ?_ _) | (simp [World.setCell, Array.getElem?_modify, A1.out, A2.out]; done))); done)), Lib.hid (by first | (simp [World.setCell, Array.getElem?_modify, A1.out, A2.out]; done) | (simp [World.setCell, Array.getElem?_modify, A1.out, A2.out]; omega) | ((repeat (first | (with_reducible exact A1.out) | (with_reducible exact A2.out) | (with_reducible exact heap_new _ _ _ (by first | rfl | (simp; done))) | (with_reducible refine keepa ?_ _) | (simp [World.setCell, Array.getElem?_modify, A1.out, A2.out]; done))); done)), Lib.hid (own_empty _ _ _ _ _ (by simp) (by simp)), Lib.hid (by have hbsz := Below.size (BA.out); repeat (first | (with_reducible exact BA.out) | (with_reducible refine bel_set (by first | omega | (simp; done) | (simp; omega)) ?_) | (with_reducible refine bel_alloc (by first | omega | (simp; done) | (simp; omega)) ?_) | (with_reducible refine bel_drew ?_) | (with_reducible refine bel_drewN ?_ _))), trivial⟩ ?_
    clear c_A1 f_A1 c_A2 f_A2
    rintro w2 ⟨A1, A2, O2, BA2, -⟩
    have c_A1 := cell_of_block A1.out
    have f_A1 := frozen_of_block A1.out
    have c_A2 := cell_of_block A2.out
    have f_A2 := frozen_of_block A2.out
    go_wp2_with fail
    refine bodyPost_ret (v := .agg #[.int .i64 fr, .int .i64 tt, .slice (some ⟨w1.heap.size, 0, none⟩) 0 0]) (by simp [results, Try.results26, go_sem, c_A1, c_A2]) rfl ⟨some ⟨w1.heap.size, 0, none⟩, 0, rfl, Lib.hid ?_, Lib.hid (by have hbsz := Below.size (BA2.out); repeat (first | (with_reducible exact BA2.out) | (with_reducible refine bel_set (by first | omega | (simp; done) | (simp; omega)) ?_) | (with_reducible refine bel_alloc (by first | omega | (simp; done) | (simp; omega)) ?_) | (with_reducible refine bel_drew ?_) | (with_reducible refine bel_drewN ?_ _)))⟩
    show Own 5 1 w.heap.size _ (.slice (some ⟨w1.heap.size, 0, none⟩) 0 0) 0 []
    exact Own.mono (B := w1.heap.size) (by repeat (first | (with_reducible exact O2.out) | (with_reducible refine Own.set ?_ _ _ (by first | omega | (simp; done) | (simp; omega))) | (with_reducible refine Own.alloc ?_ _) | (with_reducible refine Own.drew ?_) | (with_reducible refine Own.drewN ?_ _))) (by omega)
  | some ad =>
    have HC := Lib.hid (Sl.news (by decide) (Sl.keep (w' := w1.alloc (.cells #[] 5)) (by decide) HS1.out B1.out))
    simp only [Dv.sl] at HC
    go_wp2_with (at_builtin; refine wpList_app rfl (.tmp 3) (.tmp 5) 31 rfl w1.heap.size 5 (.int .u8 0) 1 1 Try.underlying31 (by kernel_rfl) rfl (by decide) w1.heap.size w1 B1 (Nat.le_refl _) (Lib.hid (own_empty _ _ _ _ _ rfl (Nat.le_refl _))) rfl ad bs.length cap rfl (u8s bs) (by rw [u8s_len, Nat.mul_one]) HC (u8s_one bs) (by omega) (by omega) (by simp) ?_; intro p1 cap1 w2 hc1 HO1 HB1 HK1; simp only [Nat.zero_add, List.nil_append] at HO1 hc1; have G1 := Lib.hid (keepb A1.out HB1.out); have G2 := Lib.hid (keepb A2.out HB1.out); have c_G1 := cell_of_block G1.out; have f_G1 := frozen_of_block G1.out; have c_G2 := cell_of_block G2.out; have f_G2 := frozen_of_block G2.out)
    have hap := SZ.out
    have hz2 : w1.heap.size ≤ w2.heap.size := HB1.out.size
    refine bodyPost_ret (v := .agg #[.int .i64 fr, .int .i64 tt, .slice p1 bs.length cap1]) (by simp [results, Try.results26, go_sem, c_G1, c_G2]) rfl ⟨p1, cap1, rfl, Lib.hid ?_, Lib.hid (by repeat (first | (with_reducible exact chain BA.out HB1.out) | (with_reducible refine bel_set (by first | omega | (simp; done) | (simp; omega)) ?_) | (with_reducible refine bel_alloc (by first | omega | (simp; done) | (simp; omega)) ?_) | (with_reducible refine bel_drew ?_) | (with_reducible refine bel_drewN ?_ _)))⟩
    show Own 5 1 w.heap.size _ (.slice p1 bs.length cap1) bs.length (u8s bs)
    exact Own.mono (B := w1.heap.size) (by repeat (first | (with_reducible exact HO1.out) | (with_reducible refine Own.set ?_ _ _ (by first | omega | (simp; done) | (simp; omega))) | (with_reducible refine Own.alloc ?_ _) | (with_reducible refine Own.drew ?_) | (with_reducible refine Own.drewN ?_ _))) (by omega)

theorem qnew_any (w : World) : Calls Try.prog 9 #[] w fun e w' => e = .returned (.pointer (some ⟨w.heap.size, 0, none⟩)) ∧ Hid (NetM w.heap.size w.heap.size none 0 [] 0 w') ∧ Hid (Below w.heap.size w w') := by
  go_enter Try.func9, Try.ntmps9
  go_wp2_with fail
  go_ret
  exact ⟨rfl, Lib.hid ⟨heap_new _ _ _ rfl, own_nil _ _ _ _, fun d hd => by cases hd⟩, Lib.hid (below_alloc _ _)⟩

theorem qplace_any (nb : Nat) (p : Option Addr) (n cap : Nat) (g k : Int) (w : World) (h : w.heap[nb]? = some (.cells #[.slice p n cap, .int .i64 g] 43)) (hn : n ≤ 1048576) (hk : -9223372036854775808 ≤ k ∧ k ≤ 9223372036854775807) :
    Calls Try.prog 29 #[.pointer (some ⟨nb, 0, none⟩), .int .i64 k] w fun e w' => (if n = 0 then e = .returned (.int .i64 (-1)) else e = .returned (.int .i64 (ntPlace k n))) ∧ w = w' := by
  have c1 := cell_of_block h
  clear h
  obtain ⟨hk0, hk1⟩ := hk
  by_cases h0 : n = 0
  · subst h0
    simp only [if_true]
    go_enter Try.func29, Try.ntmps29
    go_wp2_with fail
    go_ret
    exact ⟨rfl, rfl⟩
  · have z0 : ((n : Int) == 0) = false := by rw [beq_eq_false_iff_ne]; omega
    have n0 : (1 : Int) ≤ n := by omega
    simp only [h0, if_false]
    have hp : ((ntPlace k n : Nat) : Int) = k % (n : Int) := by
      unfold ntPlace
      rw [Int.toNat_of_nonneg (Int.emod_nonneg _ (by omega))]
    have HP := Lib.hid hp
    have q1 := Int.emod_nonneg k (show (n : Int) ≠ 0 by omega)
    have q2 := Int.emod_lt_of_pos k (show (0 : Int) < n by omega)
    have ht : k.tmod n = k % (n : Int) ∨ k.tmod n = k % (n : Int) - n := by
      rw [Int.tmod_eq_emod]
      split
      · left; simp
      · right; simp
    have h3 : (k.tmod n) < n := by omega
    have h4 : -(n : Int) < k.tmod n ∨ k.tmod n = -(n : Int) := by omega
    have h4 : -(n : Int) ≤ k.tmod n := by omega
    have h5 : 0 ≤ k.tmod n + n := by omega
    have HT := Lib.hid ht
    have HQ := Lib.hid (And.intro q1 q2)
    clear hp ht q1 q2
    go_enter Try.func29, Try.ntmps29
    go_wp2_with fail
    go_ret
    refine ⟨ret_int ?_, rfl⟩
    rw [HP.out]
    have := HT.out
    have := HQ.out
    rcases HT.out with e | e
    · rw [e, Int.add_emod, Int.emod_self, Int.add_zero, Int.emod_emod_of_dvd _ (Int.dvd_refl _), Int.emod_emod_of_dvd _ (Int.dvd_refl _)]
    · rw [show k.tmod n + n = k % (n : Int) by omega, Int.emod_emod_of_dvd _ (Int.dvd_refl _)]

theorem qlen_any (nb : Nat) (p : Option Addr) (n cap : Nat) (g : Int) (w : World) (h : w.heap[nb]? = some (.cells #[.slice p n cap, .int .i64 g] 43)) :
    Calls Try.prog 22 #[.pointer (some ⟨nb, 0, none⟩)] w fun e w' => e = .returned (.int .i64 n) ∧ w = w' := by
  have c1 := cell_of_block h
  clear h
  go_enter Try.func22, Try.ntmps22
  go_wp2_with fail
  go_ret
  exact ⟨rfl, rfl⟩

theorem qlost_any (nb : Nat) (v : Value) (g : Int) (w : World) (h : w.heap[nb]? = some (.cells #[v, .int .i64 g] 43)) :
    Calls Try.prog 24 #[.pointer (some ⟨nb, 0, none⟩)] w fun e w' => e = .returned (.int .i64 g) ∧ w = w' := by
  have c1 := cell_of_block h
  clear h
  go_enter Try.func24, Try.ntmps24
  go_wp2_with fail
  go_ret
  exact ⟨rfl, rfl⟩
end Go.Proofs.Ytkgngfjlmkclcaa.K
