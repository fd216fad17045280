/-
  CONTRACTS of package session: within, place$1, IndexFunc over sessions, place, own.
-/
import Derived.Test.YtlmkkfigmoefdaaSesMem
set_option linter.unusedVariables false
set_option linter.unusedSimpArgs false
namespace Go.Proofs.Ytlmkkfigmoefdaa.K
open Go Go.RowKit Nj

/-- a session with slices of the call's own -/
def RetOwn (w : World) (s : Ses) (e : Ending) (w' : World) : Prop := ∃ y : Sv, y.s = s ∧ e = .returned (.agg y.cells.toArray) ∧ Hid (SOk 57 85 w.heap.size w' y) ∧ Hid (Below w.heap.size w w')

theorem bclone_at (v : Value) (l : List Bt) (w : World) (h : Bts w v l) (hle : l.length ≤ 1048576) :
    Calls Try.prog 63 #[v] w fun e w' => ∃ p cap, e = .returned (.slice p l.length cap) ∧ Hid (Own 57 2 w.heap.size w' (.slice p l.length cap) l.length (flat Bt.cells l)) ∧ Hid (Below w.heap.size w w') :=
  (bclone_any v l w h hle).mono fun e w' ⟨v', he, ho, hb⟩ => by
    obtain ⟨p, cap, rfl, _⟩ := ho.shape
    exact ⟨p, cap, he, Lib.hid ho, Lib.hid hb⟩

theorem swithin_any (n lo hi : Int) (w : World) :
    Calls Try.prog 35 #[.int .i64 n, .int .i64 lo, .int .i64 hi] w fun e w' => e = .returned (.bool (decide (lo ≤ n ∧ n ≤ hi))) ∧ w = w' := by
  go_enter Try.func35, Try.ntmps35
  go_wp2_with fail
  all_goals go_ret
  all_goals exact ⟨ret_bool (by simp_all; try omega), rfl⟩

set_option maxRecDepth 100000 in
set_option maxHeartbeats 4000000 in
theorem splace1_any (x : Sv) (b : Nat) (i : Int) (w : World) (hb : Hid (w.heap[b]? = some (.cells #[.int .i64 i] 3))) :
    Calls Try.prog 66 #[.agg x.cells.toArray, .pointer (some ⟨b, 0, none⟩)] w fun e w' => e = .returned (.bool (decide (x.s.id = i))) ∧ Hid (Below w.heap.size w w') := by
  go_enter Try.func66, Try.ntmps66
  go_upto_region 1 with fail
  refine gen_wp (fun w1 => Hid (Below w.heap.size w w1) ∧ Hid (w1.heap[w.heap.size]? = some (.cells x.cells.toArray 38)) ∧ Hid (w1.heap[b]? = some (.cells #[.int .i64 i] 3)) ∧ True) ⟨Lib.hid (by (repeat (first | (with_reducible exact Below.refl _ _) | (with_reducible refine bel_set (by first | omega | (simp; done) | (simp; omega)) ?_) | (with_reducible refine bel_alloc (by first | omega | (simp; done) | (simp; omega)) ?_) | (with_reducible refine bel_drew ?_) | (with_reducible refine bel_drewN ?_ _))); first | done | fail "left"), Lib.hid (heap_new _ _ _ rfl), Lib.hid (keepa hb.out _), trivial⟩ ?_
  rintro w1 ⟨BA, A2, A1, -⟩
  have c_A1 := cell_of_block A1.out
  have f_A1 := frozen_of_block A1.out
  have g0 := g_id (rangeAt_block A2.out)
  go_wp2_with fail
  go_ret
  exact ⟨ret_bool (by rw [Bool.eq_iff_iff]; simp), BA⟩

set_option maxRecDepth 100000 in
set_option maxHeartbeats 8000000 in
theorem sindexf_any (F : FuncId) (caps : Array Value) (p : Option Addr) (cap : Nat) (l : List Sv) (pred : Sv → Bool) (Inv : Nat → World → Prop) (w : World) (hF : ∀ args W, (callFunc F args).run Try.prog W = .ok (.enter F args) W)
    (hm : l.length ≤ 9223372036854775807) (hcap : l.length ≤ cap) (h0 : Inv 0 w) (hS : ∀ k W, Inv k W → Sl 35 W (.slice p l.length cap) l.length (flat Sv.cells l))
    (hcl : ∀ k (hk : k < l.length) (x : Sv) W, x = l[k] → Inv k W → Calls Try.prog F (#[.agg x.cells.toArray] ++ caps) W fun e W' => e = .returned (.bool (pred x)) ∧ Hid (Inv (k + 1) W')) :
    Calls Try.prog 65 #[.slice p l.length cap, .func (.func F) #[] caps] w fun e w' =>
      (∃ k, ∃ hk : k < l.length, pred l[k] = true ∧ (∀ j (hj : j < l.length), j < k → pred l[j] = false) ∧ e = .returned (.int .i64 k) ∧ Hid (Inv (k + 1) w')) ∨ ((∀ j (hj : j < l.length), pred l[j] = false) ∧ e = .returned (.int .i64 (-1)) ∧ Hid (Inv l.length w')) := by
  have HC := Lib.hid hcl
  have HSS := Lib.hid hS
  have H0 := Lib.hid h0
  clear hcl hS h0
  go_enter Try.func65, Try.ntmps65
  go_wp2_with fail
  go_loopw [8] (fun i wr => ∃ k : Nat, k ≤ l.length ∧ i = .int .i64 k ∧ (∀ j (hj : j < l.length), j < k → pred l[j] = false) ∧ Inv k wr) (fun i _ => l.length - (intOf i).toNat)
  case atStart => exact ⟨0, by omega, rfl, fun j _ hj => by omega, H0.out⟩
  case round =>
    obtain ⟨k, hk, rfl, hall, hinv⟩ := hrel
    have HA := Lib.hid hall
    have HI := Lib.hid hinv
    clear hall hinv
    by_cases hlt : k < l.length
    · have HS := Lib.hid (HSS.out k wr HI.out)
      obtain ⟨b, o, rfl, _⟩ := HS.out.open (by omega)
      obtain ⟨x, hx⟩ : ∃ x, x = l[k] := ⟨_, rfl⟩
      have R0 := Lib.hid (ses_row HS.out k hlt x hx)
      have HX := Lib.hid hx
      have t1 : (k : Int) < (l.length : Int) := by omega
      have t2 : (0 : Int) ≤ (k : Int) := by omega
      have HCx := Lib.hid (HC.out k hlt x wr hx HI.out)
      clear hx
      go_wp2_with (refine ldl R0 rfl rfl rfl ?_)
      refine HCx.out.mono ?_
      rintro e W' ⟨rfl, HI'⟩
      cases hp : pred x
      · have HA2 := Lib.hid (show ∀ j (hj : j < l.length), j < k + 1 → pred l[j] = false by
          intro j hj hjk
          by_cases e : j = k
          · subst e; rw [← HX.out]; exact hp
          · exact HA.out j hj (by omega))
        go_wp2_with fail
        go_roundw
        case rel => exact ⟨k + 1, by omega, by go_num, HA2.out, HI'.out⟩
        case measure => simp [intOf]; omega
      · have HP := Lib.hid (show pred l[k] = true by rw [← HX.out]; exact hp)
        go_wp2_with fail
        go_ret
        exact .inl ⟨k, hlt, HP.out, HA.out, rfl, HI'⟩
    · have hke : k = l.length := by omega
      subst hke
      have t1 : decide ((l.length : Int) < (l.length : Int)) = false := by simp
      go_wp2_with fail
      go_ret
      exact .inr ⟨fun j hj => HA.out j hj hj, rfl, HI⟩

/-- where a session stands -/
def RetPl (w : World) (l : List Sv) (i : Int) (e : Ending) (w' : World) : Prop :=
  ((∃ k, ∃ hk : k < l.length, l[k].s.id = i ∧ (∀ j (hj : j < l.length), j < k → l[j].s.id ≠ i) ∧ e = .returned (.int .i64 k)) ∨ ((∀ j (hj : j < l.length), l[j].s.id ≠ i) ∧ e = .returned (.int .i64 (-1)))) ∧ Hid (Below w.heap.size w w')

set_option maxHeartbeats 2000000 in
theorem splace_any (v : Value) (l : List Sv) (i : Int) (w : World) (h : Sess w v l) :
    Calls Try.prog 41 #[v, .int .i64 i] w (RetPl w l i) := by
  obtain ⟨p, cap, rfl, hcap⟩ := sess_shape h
  have HS := Lib.hid h.1
  have hm : l.length ≤ 9223372036854775807 := h.1.1
  clear h
  go_enter Try.func41, Try.ntmps41
  go_upto_region 1 with fail
  refine gen_wp (fun w1 => Hid (Below w.heap.size w w1) ∧ Hid (w1.heap[w.heap.size]? = some (.cells #[.int .i64 i] 3)) ∧ True) ⟨Lib.hid (by (repeat (first | (with_reducible exact Below.refl _ _) | (with_reducible refine bel_set (by first | omega | (simp; done) | (simp; omega)) ?_) | (with_reducible refine bel_alloc (by first | omega | (simp; done) | (simp; omega)) ?_) | (with_reducible refine bel_drew ?_) | (with_reducible refine bel_drewN ?_ _))); first | done | fail "left"), Lib.hid (by first | (simp [World.setCell, Array.getElem?_modify]; done) | (simp [World.setCell, Array.getElem?_modify]; omega) | ((repeat (first | (with_reducible exact heap_new _ _ _ (by first | rfl | (simp; done))) | (with_reducible refine keepa ?_ _) | (simp [World.setCell, Array.getElem?_modify]; done))); done)), trivial⟩ ?_
  rintro w1 ⟨BA, A1, -⟩
  have c_A1 := cell_of_block A1.out
  have f_A1 := frozen_of_block A1.out
  have hb1 := block_lt A1.out
  go_wp2_with fail
  refine (sindexf_any 66 #[.pointer (some ⟨w.heap.size, 0, none⟩)] p cap l (fun x => decide (x.s.id = i)) (fun _ W => Below w1.heap.size w1 W) w1 (fun args W => by go_simp) hm hcap (Below.refl _ _) (fun _ W hW => (HS.out.keep (by decide) (chain BA.out hW)))
    (fun k hk x W hx hW => (splace1_any x w.heap.size i W (Lib.hid (keepb A1.out hW))).mono fun e W' ⟨he, hb⟩ => ⟨he, Lib.hid (chain hW hb.out)⟩)).mono ?_
  rintro e w2 (⟨k, hk, hp, hno, rfl, HB⟩ | ⟨hno, rfl, HB⟩)
  · have HP := Lib.hid (show l[k].s.id = i by simpa using hp)
    have HN := Lib.hid (show ∀ j (hj : j < l.length), j < k → l[j].s.id ≠ i from fun j hj hjk => by simpa using hno j hj hjk)
    clear hp hno
    go_wp2_with fail
    go_ret
    exact ⟨.inl ⟨k, hk, HP.out, HN.out, rfl⟩, Lib.hid (chain BA.out HB.out)⟩
  · have HN := Lib.hid (show ∀ j (hj : j < l.length), l[j].s.id ≠ i from fun j hj => by simpa using hno j hj)
    clear hno
    go_wp2_with fail
    go_ret
    exact ⟨.inr ⟨HN.out, rfl⟩, Lib.hid (chain BA.out HB.out)⟩
end Go.Proofs.Ytlmkkfigmoefdaa.K
