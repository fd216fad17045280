/-
  CONTRACTS of those functions of package send that package session reaches (each as in its own chapter).
-/
import Derived.Test.YtlmkkfigmoefdaaProg
import Derived.Test.YtlmkkfigmoefdaaSl
import Derived.Test.YtlmkkfigmoefdaaReg
import Derived.Test.YtlmkkfigmoefdaaSesFns
import Derived.Deep.RegionHeld3
import Derived.Deep.RegionWith
import Derived.RegionTactic
import Derived.BigRegion
set_option linter.unusedVariables false
set_option linter.unusedSimpArgs false
namespace Nj
open Go Go.RowKit

def Nt.cells (n : Nt) : List Value := [.int .i64 n.user, .int .i64 n.ver, .int .i64 n.stat, .int .i64 n.cnt]

def Fl.cells (f : Fl) : List Value := [.int .i64 f.seq, .int .i64 f.note.user, .int .i64 f.note.ver, .int .i64 f.note.stat, .int .i64 f.note.cnt, .int .i64 f.at_, .int .i64 f.tries]

theorem fl_seven (f : Fl) : f.cells.length = 7 := rfl

theorem fl_cells_one (l : List Fl) : ∀ u ∈ flat Fl.cells l, u.oneCell' = true := by
  intro u hu
  simp only [flat, List.mem_flatMap, Fl.cells, List.mem_cons, List.not_mem_nil, or_false] at hu
  obtain ⟨b, _, rfl | rfl | rfl | rfl | rfl | rfl | rfl⟩ := hu <;> rfl

/-- v is a slice of these flights -/
def Fls (w : World) (v : Value) (l : List Fl) : Prop := Sl 7 w v l.length (flat Fl.cells l)

theorem fls_shape {w : World} {v : Value} {l : List Fl} (h : Fls w v l) : ∃ p cap, v = .slice p l.length cap ∧ l.length ≤ cap := by
  obtain ⟨_, _, p, cap, rfl, hcap, _⟩ := h
  exact ⟨p, cap, rfl, hcap⟩

theorem fls_keep {w w' : World} {v : Value} {l : List Fl} (h : Hid (Fls w v l)) (hb : Hid (Below w.heap.size w w')) : Hid (Fls w' v l) := Lib.hid (h.out.keep (by decide) hb.out)

/-- element i's cells, in a later world -/
theorem fls_at {w w' : World} {b o cap : Nat} {l : List Fl} {n : Nat} (h : Hid (Fls w (.slice (some ⟨b, o, none⟩) n cap) l)) (hb : Below w.heap.size w w') (i : Nat) (hi : i < l.length) (j : Nat) (u : Value) (hu : l[i].cells[j]? = some u) :
    w'.cell? ⟨b, o + (i * 7 + j), none⟩ = some u := by
  have hj : j < 7 := by
    rcases Nat.lt_or_ge j 7 with h | h
    · exact h
    · rw [List.getElem?_eq_none (by rw [fl_seven]; exact h)] at hu; cases hu
  exact Sl.elem fl_seven (h.out.keep (by decide) hb) i j hi hj u hu

/-- all seven cells of element i, in a later world, as the walk spells their addresses -/
theorem fls_row {w w' : World} {b o cap : Nat} {l : List Fl} {n : Nat} (h : Hid (Fls w (.slice (some ⟨b, o, none⟩) n cap) l)) (hb : Below w.heap.size w w') (i : Nat) (hi : i < l.length) (f : Fl) (hf : f = l[i]) :
    w'.cell? ⟨b, o + i * 7, none⟩ = some (.int .i64 f.seq) ∧ w'.cell? ⟨b, o + i * 7 + 1, none⟩ = some (.int .i64 f.note.user) ∧ w'.cell? ⟨b, o + i * 7 + 2, none⟩ = some (.int .i64 f.note.ver) ∧ w'.cell? ⟨b, o + i * 7 + 3, none⟩ = some (.int .i64 f.note.stat) ∧
      w'.cell? ⟨b, o + i * 7 + 4, none⟩ = some (.int .i64 f.note.cnt) ∧ w'.cell? ⟨b, o + i * 7 + 5, none⟩ = some (.int .i64 f.at_) ∧ w'.cell? ⟨b, o + i * 7 + 6, none⟩ = some (.int .i64 f.tries) := by
  subst hf
  exact ⟨fls_at h hb i hi 0 _ rfl, fls_at h hb i hi 1 _ rfl, fls_at h hb i hi 2 _ rfl, fls_at h hb i hi 3 _ rfl, fls_at h hb i hi 4 _ rfl, fls_at h hb i hi 5 _ rfl, fls_at h hb i hi 6 _ rfl⟩

theorem and_one (x : Int) : bits .and .i64 x 1 = x % 2 := by
  show IntKind.i64.wrap ((BitVec.ofInt 64 x &&& BitVec.ofInt 64 1).toNat : Int) = _
  have h1 : (BitVec.ofInt 64 1).toNat = 1 := by decide
  rw [BitVec.toNat_and, h1, Nat.and_one_is_mod, BitVec.toNat_ofInt, IntKind.wrap_i64]
  have h2 : ((x % ((2 ^ 64 : Nat) : Int)).toNat : Int) = x % 18446744073709551616 := by
    rw [Int.toNat_of_nonneg (Int.emod_nonneg _ (by decide))]; rfl
  omega


end Nj
namespace Go.Proofs.Ytlmkkfigmoefdaa.K
open Go Go.RowKit Nj

theorem fclone_any (v : Value) (l : List Fl) (w : World) (h : Fls w v l) (hle : l.length ≤ 1048576) :
    Calls Try.prog 64 #[v] w fun e w' => ∃ p cap, e = .returned (.slice p l.length cap) ∧ Hid (Own 85 7 w.heap.size w' (.slice p l.length cap) l.length (flat Fl.cells l)) ∧ Hid (Below w.heap.size w w') := by
  have HS := Lib.hid h
  obtain ⟨p, cap, rfl, hcap⟩ := fls_shape h
  clear h
  have heq := fun w => Lib.run_eql_slice_nil (P := Try.prog) w 30 85 p l.length cap 0 0 Try.underlying30
  cases p with
  | none =>
    have h0 : l = [] := by
      cases l with
      | nil => rfl
      | cons a l => obtain ⟨b, o, h, _⟩ := HS.out.open (by simp); cases h
    subst h0
    simp only [List.length_nil] at heq
    go_enter Try.func64, Try.ntmps64
    go_wp2_with fail
    go_ret
    exact ⟨none, 0, rfl, Lib.hid (own_nil _ _ _ _), Lib.hid (Below.refl _ _)⟩
  | some ad =>
    have HC := Lib.hid (Sl.news (by decide) (HS.out.keep (w' := w.alloc (.cells #[] 85)) (by decide) ((Below.refl _ _).alloc (Nat.le_refl _) _)))
    go_enter Try.func64, Try.ntmps64
    go_wp2_with (at_builtin; refine wpList_app rfl (.tmp 5) (.tmp 6) 30 rfl w.heap.size 85 (.agg #[.int .i64 0, .int .i64 0, .int .i64 0, .int .i64 0, .int .i64 0, .int .i64 0, .int .i64 0]) 7 56 Try.underlying30 (by kernel_rfl) rfl (by decide) w.heap.size w (Lib.hid ((Below.refl _ _).alloc (Nat.le_refl _) _)) (Nat.le_refl _) (Lib.hid (own_empty _ _ _ _ _ rfl (Nat.le_refl _))) rfl ad l.length cap rfl (flat Fl.cells l) (flat_length fl_seven l) HC (fl_cells_one l) (by omega) (by omega) (by simp) ?_; intro p1 cap1 w1 hc1 HO1 HB1 HK1; simp only [Nat.zero_add, List.nil_append] at HO1 hc1)
    go_ret
    exact ⟨p1, cap1, rfl, HO1, HB1⟩

set_option maxHeartbeats 1000000 in
theorem fits_any (f : Fl) (last next : Int) (w : World) (hl : 0 ≤ last) (hn : next ≤ 9223372036854775807) :
    Calls Try.prog 71 #[.agg #[.int .i64 f.seq, .int .i64 f.note.user, .int .i64 f.note.ver, .int .i64 f.note.stat, .int .i64 f.note.cnt, .int .i64 f.at_, .int .i64 f.tries], .int .i64 last, .int .i64 next] w fun e w' => e = .returned (.bool (flFits f last next)) ∧ Hid (Below w.heap.size w w') := by
  go_enter Try.func71, Try.ntmps71
  go_wp2_with fail
  all_goals go_ret
  all_goals exact ⟨ret_bool (by simp_all [flFits]; try omega), Lib.hid ((Below.refl _ _).alloc (Nat.le_refl _) _)⟩

theorem fls_off {B : Nat} {w w' : World} {v : Value} {l : List Fl} (h : Fls w v l) (hb : Below w.heap.size w w') : Fls w' v l := h.keep (by decide) hb


end Go.Proofs.Ytlmkkfigmoefdaa.K
namespace Nj
open Go Go.RowKit

theorem chain_bad {n last : Int} {l : List Fl} {k : Nat} (hk : k < l.length) (h : flFits l[k] last n = false) : flChain n last (l.drop k) = false := by
  rw [List.drop_eq_getElem_cons hk, flChain, h]; rfl

theorem chain_good {n last : Int} {l : List Fl} {k : Nat} (hk : k < l.length) (h : flFits l[k] last n = true) : flChain n last (l.drop k) = flChain n l[k].seq (l.drop (k + 1)) := by
  rw [List.drop_eq_getElem_cons hk, flChain, h]; simp

theorem fits_pos {f : Fl} {last next : Int} (h : flFits f last next = true) : last < f.seq := by
  unfold flFits at h
  simp only [Bool.and_eq_true, decide_eq_true_eq] at h
  exact h.1


end Nj
namespace Go.Proofs.Ytlmkkfigmoefdaa.K
open Go Go.RowKit Nj

set_option maxHeartbeats 2000000 in
theorem sright_any (n : Int) (v : Value) (c a : Int) (l : List Fl) (w : World) (h : Fls w v l) (hn : n ≤ 9223372036854775807) :
    Calls Try.prog 59 #[.agg #[.int .i64 n, v, .int .i64 c, .int .i64 a]] w fun e w' => e = .returned (.bool (sdRight ⟨n, l, c, a⟩)) ∧ Hid (Below w.heap.size w w') := by
  have HS := Lib.hid h
  have hm : l.length ≤ 9223372036854775807 := h.1
  obtain ⟨p, cap, rfl, hcap⟩ := fls_shape h
  clear h
  go_enter Try.func59, Try.ntmps59
  go_wp2_with fail
  go_loopw [3, 9] (fun lv i wr => ∃ (k : Nat) (last : Int), k ≤ l.length ∧ i = .int .i64 k ∧ lv = .int .i64 last ∧ 0 ≤ last ∧ flChain n 0 l = flChain n last (l.drop k) ∧ wr.heap[w.heap.size]? = some (.cells #[.int .i64 n, .slice p l.length cap, .int .i64 c, .int .i64 a] 32) ∧ Below w.heap.size w wr) (fun _ i _ => l.length - (intOf i).toNat)
  case atStart => exact ⟨0, 0, by omega, rfl, rfl, by omega, rfl, heap_new _ _ _ rfl, (Below.refl _ _).alloc (Nat.le_refl _) _⟩
  case round =>
    obtain ⟨k, last, hk, rfl, rfl, hl0, hch, hq, hwb⟩ := hrel
    have HC := Lib.hid hch
    have HQ := Lib.hid hq
    have HW := Lib.hid hwb
    clear hch hq hwb
    by_cases hlt : k < l.length
    · obtain ⟨b, o, rfl, _⟩ := HS.out.open (by omega)
      obtain ⟨f, hf⟩ : ∃ f, f = l[k] := ⟨_, rfl⟩
      obtain ⟨c0, c1, c2, c3, c4, c5, c6⟩ := fls_row HS HW.out k hlt f hf
      have HF := Lib.hid hf
      have t1 : (k : Int) < (l.length : Int) := by omega
      have t2 : (0 : Int) ≤ (k : Int) := by omega
      have q0 := cell_of_block HQ.out
      have q1 := frozen_of_block HQ.out
      clear hf
      have hsz : w.heap.size < wr.heap.size := block_lt HQ.out
      go_wp2_with fail
      refine (fits_any f last n _ hl0 hn).mono ?_
      rintro e w1 ⟨rfl, B1⟩
      have HQ1 := Lib.hid (keepb (keepa HQ.out (.cells #[.int .i64 f.seq, .int .i64 f.note.user, .int .i64 f.note.ver, .int .i64 f.note.stat, .int .i64 f.note.cnt, .int .i64 f.at_, .int .i64 f.tries] 85)) B1.out)
      have HX1 := Lib.hid (keepb (heap_new wr (.cells #[.int .i64 f.seq, .int .i64 f.note.user, .int .i64 f.note.ver, .int .i64 f.note.stat, .int .i64 f.note.cnt, .int .i64 f.at_, .int .i64 f.tries] 85) _ rfl) B1.out)
      have HB1 := Lib.hid (chain (HW.out.alloc HW.out.size _) B1.out)
      have d0 := cell_of_block HQ1.out
      have d1 := cell_of_block HX1.out
      clear c0 c1 c2 c3 c4 c5 c6 q0 q1
      cases hfit : flFits f last n
      · have HFalse := Lib.hid (show sdRight ⟨n, l, c, a⟩ = false by
          unfold sdRight
          rw [show flChain n 0 l = false by rw [HC.out]; exact chain_bad hlt (by rw [← HF.out]; exact hfit)]; rfl)
        go_wp2_with fail
        go_ret
        exact ⟨ret_bool HFalse.out.symm, HB1⟩
      · have HC2 := Lib.hid (show flChain n 0 l = flChain n f.seq (l.drop (k + 1)) by
          rw [HC.out, chain_good hlt (by rw [← HF.out]; exact hfit), HF.out])
        have hp := fits_pos hfit
        go_wp2_with fail
        go_roundw
        case rel => exact ⟨k + 1, f.seq, by omega, by go_num, rfl, by omega, HC2.out, HQ1.out, HB1.out⟩
        case measure => simp [intOf]; omega
    · have hke : k = l.length := by omega
      have t1 := dec_f (show ¬ (k : Int) < (l.length : Int) by omega)
      have HT := Lib.hid (show flChain n 0 l = true by
        rw [HC.out, List.drop_of_length_le (by omega)]; rfl)
      have q0 := cell_of_block HQ.out
      have HE := Lib.hid (show sdRight ⟨n, l, c, a⟩ = sdEnds ⟨n, l, c, a⟩ by unfold sdRight; rw [HT.out]; rfl)
      clear hke
      go_wp2_with fail
      all_goals go_ret
      all_goals refine ⟨ret_bool ?_, HW⟩
      all_goals rw [HE.out]
      all_goals (simp_all [sdEnds]; try omega)


end Go.Proofs.Ytlmkkfigmoefdaa.K
namespace Nj
open Go Go.RowKit

/-- a slice of the call's own of integers is one -/
theorem ints_of_own {E : TypeId} {B : Nat} {w : World} {p : Option Addr} {n cap : Nat} {xs : List Int} (h : Own E 1 B w (.slice p n cap) n (xs.map (Value.int .i64))) : n = xs.length ∧ Ints w (.slice p xs.length cap) xs := by
  have hn : n = xs.length := by have := h.1; simpa using this.symm
  subst hn
  exact ⟨rfl, OwnI.ints (E := E) (B := B) h⟩


end Nj
namespace Go.Proofs.Ytlmkkfigmoefdaa.K
open Go Go.RowKit Nj

theorem neq_fl (x y : Fl) (w : World) :
    (binOp .neq 85 (.agg #[.int .i64 x.seq, .int .i64 x.note.user, .int .i64 x.note.ver, .int .i64 x.note.stat, .int .i64 x.note.cnt, .int .i64 x.at_, .int .i64 x.tries]) (.agg #[.int .i64 y.seq, .int .i64 y.note.user, .int .i64 y.note.ver, .int .i64 y.note.stat, .int .i64 y.note.cnt, .int .i64 y.at_, .int .i64 y.tries])).run Try.prog w = .ok (.bool (!(decide (x = y)))) w := by
  go_simp
  have e : (x = y) ↔ x.seq = y.seq ∧ (x.note.user = y.note.user ∧ x.note.ver = y.note.ver ∧ x.note.stat = y.note.stat ∧ x.note.cnt = y.note.cnt) ∧ x.at_ = y.at_ ∧ x.tries = y.tries := by
    obtain ⟨a, ⟨b, c, d, e⟩, f, g⟩ := x; obtain ⟨a', ⟨b', c', d', e'⟩, f', g'⟩ := y; simp
  simp only [e]
  (repeat' split) <;> simp_all

set_option maxHeartbeats 2000000 in
theorem sequal_any (v v' : Value) (l m : List Fl) (w : World) (h : Fls w v l) (h' : Fls w v' m) :
    Calls Try.prog 73 #[v, v'] w fun e w' => e = .returned (.bool (decide (l = m))) ∧ Hid (Below w.heap.size w w') := by
  have HS := Lib.hid h
  have HS' := Lib.hid h'
  have hm : l.length ≤ 9223372036854775807 := h.1
  have hm' : m.length ≤ 9223372036854775807 := h'.1
  obtain ⟨p, cap, rfl, hcap⟩ := fls_shape h
  obtain ⟨p', cap', rfl, hcap'⟩ := fls_shape h'
  clear h h'
  by_cases hlen : l.length = m.length
  · have HL := Lib.hid hlen
    obtain ⟨n, hn⟩ : ∃ n, n = l.length := ⟨_, rfl⟩
    have hn' : n = m.length := by omega
    rw [← hn] at hm hcap
    rw [← hn'] at hm' hcap'
    have HN := Lib.hid hn
    have HN' := Lib.hid hn'
    rw [← hn, ← hn']
    rw [← hn] at HS
    rw [← hn'] at HS'
    clear hlen hn hn' hm'
    go_enter Try.func73, Try.ntmps73
    go_wp2_with fail
    go_loopw [13] (fun i wr => ∃ k : Nat, k ≤ n ∧ i = .int .i64 k ∧ l.take k = m.take k ∧ Below w.heap.size w wr) (fun i _ => n - (intOf i).toNat)
    case atStart => exact ⟨0, by omega, rfl, by simp, Below.refl _ _⟩
    case round =>
      obtain ⟨k, hk, rfl, hall, hwb⟩ := hrel
      have HA := Lib.hid hall
      have HW := Lib.hid hwb
      clear hall hwb
      by_cases hlt : k < n
      · have hltl : k < l.length := by rw [← HN.out]; exact hlt
        have hltm : k < m.length := by rw [← HN'.out]; exact hlt
        obtain ⟨b, o, rfl, _⟩ := HS.out.open (by omega)
        obtain ⟨b', o', rfl, _⟩ := HS'.out.open (by omega)
        obtain ⟨x, hx⟩ : ∃ x, x = l[k] := ⟨_, rfl⟩
        obtain ⟨y, hy⟩ : ∃ y, y = m[k] := ⟨_, rfl⟩
        obtain ⟨c0, c1, c2, c3, c4, c5, c6⟩ := fls_row HS HW.out k hltl x hx
        obtain ⟨d0, d1, d2, d3, d4, d5, d6⟩ := fls_row HS' HW.out k hltm y hy
        have HX := Lib.hid hx
        have HY := Lib.hid hy
        have t1 : (k : Int) < (n : Int) := by omega
        have t2 : (0 : Int) ≤ (k : Int) := by omega
        clear hx hy
        by_cases hxy : x = y
        · have hne := fun w => neq_fl x y w
          simp only [hxy, decide_true, Bool.not_true] at hne
          have HT := Lib.hid (show l.take (k + 1) = m.take (k + 1) by
            rw [List.take_add_one, List.take_add_one, HA.out, List.getElem?_eq_getElem hltl, List.getElem?_eq_getElem hltm, ← HX.out, ← HY.out, hxy])
          subst hxy
          go_wp2_with fail
          go_quiet (fail)
          go_wp2_with fail
          go_roundw
          case rel => exact ⟨k + 1, by omega, by go_num, HT.out, bel_drewN HW.out _⟩
          case measure => simp [intOf]; omega
        · have hne := fun w => neq_fl x y w
          simp only [hxy, decide_false, Bool.not_false] at hne
          have HF := Lib.hid (show decide (l = m) = false by
            simp only [decide_eq_false_iff_not]
            rintro rfl
            exact hxy (by rw [HX.out, HY.out]))
          clear hxy
          go_wp2_with fail
          go_quiet (fail)
          go_wp2_with fail
          go_ret
          exact ⟨ret_bool HF.out.symm, Lib.hid (bel_drewN HW.out _)⟩
      · have hke : k = n := by omega
        subst hke
        have HF := Lib.hid (show decide (l = m) = true by
          have := HA.out
          rw [List.take_of_length_le (by rw [← HN.out]; exact Nat.le_refl _), List.take_of_length_le (by rw [← HN'.out]; exact Nat.le_refl _)] at this
          simpa using this)
        have t1 : decide ((k : Int) < (k : Int)) = false := by simp
        go_wp2_with fail
        go_ret
        exact ⟨ret_bool HF.out.symm, HW⟩
  · have HF := Lib.hid (show decide (l = m) = false by
      simp only [decide_eq_false_iff_not]
      rintro rfl
      exact hlen rfl)
    have t1 : ((l.length : Int) != (m.length : Int)) = true := by simp; omega
    go_enter Try.func73, Try.ntmps73
    go_wp2_with fail
    go_ret
    exact ⟨ret_bool HF.out.symm, Lib.hid (Below.refl _ _)⟩

set_option maxHeartbeats 2000000 in
theorem ssame_any (n : Int) (v : Value) (c a : Int) (l : List Fl) (n' : Int) (v' : Value) (c' a' : Int) (l' : List Fl) (w : World) (h : Fls w v l) (h' : Fls w v' l') :
    Calls Try.prog 68 #[.agg #[.int .i64 n, v, .int .i64 c, .int .i64 a], .agg #[.int .i64 n', v', .int .i64 c', .int .i64 a']] w fun e w' => e = .returned (.bool (decide (Sd.mk n l c a = Sd.mk n' l' c' a'))) ∧ Hid (Below w.heap.size w w') := by
  have HS := Lib.hid h
  have HS' := Lib.hid h'
  obtain ⟨p, cap, rfl, hcap⟩ := fls_shape h
  obtain ⟨p', cap', rfl, hcap'⟩ := fls_shape h'
  clear h h'
  have BA := Lib.hid (((Below.refl w.heap.size w).alloc (Nat.le_refl _) (.cells #[.int .i64 n, .slice p l.length cap, .int .i64 c, .int .i64 a] 32)).alloc (by simp) (.cells #[.int .i64 n', .slice p' l'.length cap', .int .i64 c', .int .i64 a'] 32))
  by_cases h1 : n = n' ∧ c = c' ∧ a = a'
  · obtain ⟨rfl, rfl, rfl⟩ := h1
    go_enter Try.func68, Try.ntmps68
    go_wp2_with fail
    refine (sequal_any _ _ l l' _ (HS.out.keep (by decide) BA.out) (HS'.out.keep (by decide) BA.out)).mono ?_
    rintro e w1 ⟨rfl, B1⟩
    go_wp2_with fail
    go_ret
    exact ⟨ret_bool (by simp), Lib.hid (chain BA.out B1.out)⟩
  · have HF := Lib.hid (show decide (Sd.mk n l c a = Sd.mk n' l' c' a') = false by
      simp only [decide_eq_false_iff_not, Sd.mk.injEq]
      rintro ⟨e1, _, e2, e3⟩
      exact h1 ⟨e1, e2, e3⟩)
    rcases (show n ≠ n' ∨ (n = n' ∧ c ≠ c') ∨ (n = n' ∧ c = c' ∧ a ≠ a') by omega) with e1 | ⟨rfl, e2⟩ | ⟨rfl, rfl, e3⟩
    · have t1 : (n == n') = false := by simpa using e1
      go_enter Try.func68, Try.ntmps68
      go_wp2_with fail
      go_ret
      exact ⟨ret_bool (by first | rfl | exact HF.out.symm), BA⟩
    · have t1 : (c == c') = false := by simpa using e2
      go_enter Try.func68, Try.ntmps68
      go_wp2_with fail
      go_ret
      exact ⟨ret_bool (by first | rfl | exact HF.out.symm), BA⟩
    · have t1 : (a == a') = false := by simpa using e3
      go_enter Try.func68, Try.ntmps68
      go_wp2_with fail
      go_ret
      exact ⟨ret_bool (by first | rfl | exact HF.out.symm), BA⟩


end Go.Proofs.Ytlmkkfigmoefdaa.K
