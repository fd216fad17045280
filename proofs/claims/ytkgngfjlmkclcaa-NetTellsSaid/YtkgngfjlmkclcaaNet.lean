/-
  CONTRACTS of the functions of package net: Clone of bytes, own, New, place, Len, Lost, Delete.
-/
import Derived.Test.YtkgngfjlmkclcaaProg
import Derived.Test.YtkgngfjlmkclcaaNetMem
import Derived.Deep.RegionHeld3
import Derived.Deep.RegionWith
import Derived.Deep.RegionLaw
import Derived.Deep.RegionLawGrows
set_option linter.unusedVariables false
set_option linter.unusedSimpArgs false
namespace Go.Proofs.Ytkgngfjlmkclcaa.K
open Go Go.RowKit Nj

theorem bclone_any (d : Dv) (w : World) (h : Bts w d) (hle : d.bs.length ≤ 140737488355328) :
    Calls Try.prog 30 #[.slice d.p d.bs.length d.cap] w fun e w' => ∃ p cap, e = .returned (.slice p d.bs.length cap) ∧ Hid (OwnB 5 w.heap.size w' ⟨d.fr, d.tt, p, cap, d.bs⟩) ∧ Hid (Below w.heap.size w w') := by
  have HS := Lib.hid h
  obtain ⟨fr, tt, p, cap, bs⟩ := d
  simp only at hle ⊢
  clear h
  have heq := fun w => Lib.run_eql_slice_nil (P := Try.prog) w 31 5 p bs.length cap 0 0 Try.underlying31
  cases p with
  | none =>
    have h0 : bs = [] := by
      cases bs with
      | nil => rfl
      | cons a l => obtain ⟨b, o, h, _⟩ := Sl.open HS.out (by simp); cases h
    subst h0
    simp only [List.length_nil] at heq
    go_enter Try.func30, Try.ntmps30
    go_wp2_with fail
    go_ret
    exact ⟨none, 0, rfl, Lib.hid (own_nil _ _ _ _), Lib.hid (Below.refl _ _)⟩
  | some ad =>
    have HC := Lib.hid (Sl.news (by decide) (Sl.keep (w' := w.alloc (.cells #[] 5)) (by decide) HS.out ((Below.refl _ _).alloc (Nat.le_refl _) _)))
    simp only [Dv.sl] at HC
    go_enter Try.func30, Try.ntmps30
    go_wp2_with (at_builtin; refine wpList_app rfl (.tmp 5) (.tmp 6) 31 rfl w.heap.size 5 (.int .u8 0) 1 1 Try.underlying31 (by kernel_rfl) rfl (by decide) w.heap.size w (Lib.hid ((Below.refl _ _).alloc (Nat.le_refl _) _)) (Nat.le_refl _) (Lib.hid (own_empty _ _ _ _ _ rfl (Nat.le_refl _))) rfl ad bs.length cap rfl (u8s bs) (by rw [u8s_len, Nat.mul_one]) HC (u8s_one bs) (by omega) (by omega) (by simp) ?_; intro p1 cap1 w1 hc1 HO1 HB1 HK1; simp only [Nat.zero_add, List.nil_append] at HO1 hc1)
    go_ret
    exact ⟨p1, cap1, rfl, Lib.hid HO1.out, HB1⟩

theorem nown_any (d : Dv) (w : World) (h : Bts w d) (hle : d.bs.length ≤ 140737488355328) :
    Calls Try.prog 25 #[.agg #[.int .i64 d.fr, .int .i64 d.tt, .slice d.p d.bs.length d.cap]] w fun e w' => ∃ p cap, e = .returned (.agg #[.int .i64 d.fr, .int .i64 d.tt, .slice p d.bs.length cap]) ∧ Hid (OwnB 5 w.heap.size w' ⟨d.fr, d.tt, p, cap, d.bs⟩) ∧ Hid (Below w.heap.size w w') := by
  have HS := Lib.hid h
  clear h
  go_enter Try.func25, Try.ntmps25
  go_wp2_with fail
  refine (bclone_any d _ (HS.out.keep (((Below.refl w.heap.size w).alloc (Nat.le_refl _) _).alloc (by simp) _)) hle).mono ?_
  rintro e w1 ⟨p1, cap1, rfl, HO1, HB1⟩
  obtain ⟨h1, h2, hsz, hbw⟩ := blocks2 HB1.out
  have HO := Lib.hid (show Own 5 1 (w.heap.size + 2) w1 (.slice p1 d.bs.length cap1) d.bs.length (u8s d.bs) by simpa [OwnB, Dv.sl] using HO1.out)
  have HB := Lib.hid hbw
  have c1 := cell_of_block h1
  have f1 := frozen_of_block h1
  have c2 := cell_of_block h2
  have f2 := frozen_of_block h2
  clear h1 h2 hbw HO1 HB1
  go_wp2_with fail
  refine bodyPost_ret (v := .agg #[.int .i64 d.fr, .int .i64 d.tt, .slice p1 d.bs.length cap1]) (by simp [results, Try.results25, go_sem, c2]) rfl ⟨p1, cap1, rfl, Lib.hid ?_, Lib.hid (by have hbsz := Below.size (HB.out); repeat (first | (with_reducible exact HB.out) | (with_reducible refine bel_set (by first | omega | (simp; done) | (simp; omega)) ?_) | (with_reducible refine bel_alloc (by first | omega | (simp; done) | (simp; omega)) ?_) | (with_reducible refine bel_drew ?_) | (with_reducible refine bel_drewN ?_ _)))⟩
  show Own 5 1 w.heap.size _ (.slice p1 d.bs.length cap1) d.bs.length (u8s d.bs)
  exact Own.mono (B := w.heap.size + 2) (by repeat (first | (with_reducible exact HO.out) | (with_reducible refine Own.set ?_ _ _ (by first | omega | (simp; done) | (simp; omega))) | (with_reducible refine Own.alloc ?_ _) | (with_reducible refine Own.drew ?_) | (with_reducible refine Own.drewN ?_ _))) (by omega)

theorem nnew_any (w : World) : Calls Try.prog 8 #[] w fun e w' => e = .returned (.pointer (some ⟨w.heap.size, 0, none⟩)) ∧ Hid (NetS 49 33 5 w.heap.size w.heap.size none 0 [] 0 w') ∧ Hid (Below w.heap.size w w') := by
  go_enter Try.func8, Try.ntmps8
  go_wp2_with fail
  go_ret
  exact ⟨rfl, Lib.hid ⟨heap_new _ _ _ rfl, own_nil _ _ _ _, fun d hd => by cases hd⟩, Lib.hid (below_alloc _ _)⟩

theorem ret_int_true {a b : Int} (h : a = b) : Ending.returned (.tuple #[.int .i64 a, .bool true]) = .returned (.tuple #[.int .i64 b, .bool true]) := by rw [h]

theorem nplace_any (nb : Nat) (p : Option Addr) (n cap : Nat) (g k : Int) (w : World) (h : w.heap[nb]? = some (.cells #[.slice p n cap, .int .i64 g] 49)) (hn : n ≤ 1048576) (hk : -9223372036854775808 ≤ k ∧ k ≤ 9223372036854775807) :
    Calls Try.prog 27 #[.pointer (some ⟨nb, 0, none⟩), .int .i64 k] w fun e w' => (if n = 0 then e = .returned (.tuple #[.int .i64 0, .bool false]) else e = .returned (.tuple #[.int .i64 (ntPlace k n), .bool true])) ∧ w = w' := by
  have c1 := cell_of_block h
  clear h
  obtain ⟨hk0, hk1⟩ := hk
  by_cases h0 : n = 0
  · subst h0
    simp only [if_true]
    go_enter Try.func27, Try.ntmps27
    go_wp2_with fail
    go_ret2
    exact ⟨rfl, rfl⟩
  · have z0 : ((n : Int) == 0) = false := by rw [beq_eq_false_iff_ne]; omega
    have n0 : (1 : Int) ≤ n := by omega
    simp only [h0, if_false]
    have hp : ((ntPlace k n : Nat) : Int) = k % (n : Int) := by
      unfold ntPlace
      rw [Int.toNat_of_nonneg (Int.emod_nonneg _ (by omega))]
    have HP := Lib.hid hp
    have q1 := Int.emod_nonneg k (show (n : Int) ≠ 0 by omega)
    have q2 := Int.emod_lt_of_pos k (show (0 : Int) < n by omega)
    have ht : k.tmod n = k % (n : Int) ∨ k.tmod n = k % (n : Int) - n := by
      rw [Int.tmod_eq_emod]
      split
      · left; simp
      · right; simp
    have h3 : (k.tmod n) < n := by omega
    have h4 : -(n : Int) < k.tmod n ∨ k.tmod n = -(n : Int) := by omega
    have h4 : -(n : Int) ≤ k.tmod n := by omega
    have HT := Lib.hid ht
    have HQ := Lib.hid (And.intro q1 q2)
    clear hp ht q1 q2
    go_enter Try.func27, Try.ntmps27
    go_wp2_with fail
    all_goals
      go_ret2
      refine ⟨ret_int_true ?_, rfl⟩
      rw [HP.out]
      have := HT.out
      have := HQ.out
      omega

theorem nlen_any (nb : Nat) (p : Option Addr) (n cap : Nat) (g : Int) (w : World) (h : w.heap[nb]? = some (.cells #[.slice p n cap, .int .i64 g] 49)) :
    Calls Try.prog 21 #[.pointer (some ⟨nb, 0, none⟩)] w fun e w' => e = .returned (.int .i64 n) ∧ w = w' := by
  have c1 := cell_of_block h
  clear h
  go_enter Try.func21, Try.ntmps21
  go_wp2_with fail
  go_ret
  exact ⟨rfl, rfl⟩

theorem nlost_any (nb : Nat) (v : Value) (g : Int) (w : World) (h : w.heap[nb]? = some (.cells #[v, .int .i64 g] 49)) :
    Calls Try.prog 23 #[.pointer (some ⟨nb, 0, none⟩)] w fun e w' => e = .returned (.int .i64 g) ∧ w = w' := by
  have c1 := cell_of_block h
  clear h
  go_enter Try.func23, Try.ntmps23
  go_wp2_with fail
  go_ret
  exact ⟨rfl, rfl⟩
end Go.Proofs.Ytkgngfjlmkclcaa.K
