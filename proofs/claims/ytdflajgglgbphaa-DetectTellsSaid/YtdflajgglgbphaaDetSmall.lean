/-
  CONTRACT of 'small' of nightjarlaw14.
-/
import Derived.Test.YtdflajgglgbphaaDetRead
import Derived.Test.YtdflajgglgbphaaDetDl
import Derived.Test.YtdflajgglgbphaaDetPlain
set_option linter.unusedVariables false
set_option linter.unusedSimpArgs false
namespace Go.Proofs.Ytdflajgglgbphaa.K
open Go Go.RowKit Nj

theorem bts_of_fresh {B : Nat} {w : World} {v : Value} {l : List Bt} (h : Fresh 2 B w v l.length (flat Bt.cells l)) : ∃ p cap, v = .slice p l.length cap ∧ l.length ≤ cap ∧ Bts w (.slice p l.length cap) l := by
  obtain ⟨_, _, p, cap, rfl, hc, _⟩ := h.1
  exact ⟨p, cap, rfl, hc, h.1⟩
/-- Beat at a known row: the result's shape -/
theorem beat_at (v : Value) (l l' : List Bt) (ok : Bool) (seq now : Int) (w : World) (h : Bts w v l) (hpos : 0 < l.length) (hle : l.length ≤ 1048575) (he : btBeat l seq now = (l', ok)) :
    Calls Try.prog 15 #[v, .int .i64 seq, .int .i64 now] w fun e w' => ∃ p cap, e = .returned (.tuple #[.slice p l'.length cap, .bool ok]) ∧ Hid (Fresh 2 w.heap.size w' (.slice p l'.length cap) l'.length (flat Bt.cells l')) ∧ Hid (Below w.heap.size w w') := by
  refine (bbeat_any v l seq now w h hpos hle).mono ?_
  rintro e w' ⟨v', rfl, hf, hb⟩
  rw [he] at hf ⊢
  obtain ⟨p, cap, rfl, hc, hs⟩ := bts_of_fresh hf
  exact ⟨p, cap, rfl, Lib.hid hf, Lib.hid hb⟩
/-- Deadline at a row, its number known -/
theorem dl_at (v : Value) (l : List Bt) (d : Int) (w : World) (h : Bts w v l) (hr : btRight l = true) (hd : btDeadline l = d) :
    Calls Try.prog 17 #[v] w fun e w' => e = .returned (.int .i64 d) ∧ Hid (Below w.heap.size w w') :=
  (bdeadline_any v l w h (right_pos hr).1 (by have := (right_pos hr).2; omega) (fun i hi => by have := (may_iff _).1 (right_all hr i hi); exact ⟨this.1, this.2.1⟩)).mono fun e w' ⟨he, hb⟩ => ⟨by rw [he, hd], Lib.hid hb⟩
theorem right_at (v : Value) (l : List Bt) (d : Bool) (w : World) (h : Bts w v l) (hd : btRight l = d) :
    Calls Try.prog 10 #[v] w fun e w' => e = .returned (.bool d) ∧ Hid (Below w.heap.size w w') :=
  (dright_any v l w h).mono fun e w' ⟨he, hb⟩ => ⟨by rw [he, hd], Lib.hid hb⟩
theorem same_at (v v' : Value) (l m : List Bt) (d : Bool) (w : World) (h : Bts w v l) (h' : Bts w v' m) (hd : decide (l = m) = d) :
    Calls Try.prog 12 #[v, v'] w fun e w' => e = .returned (.bool d) ∧ Hid (Below w.heap.size w w') :=
  (rsame_any v v' l m w h h').mono fun e w' ⟨he, hb⟩ => ⟨by rw [he, hd], Lib.hid hb⟩
theorem start_at (now : Int) (w : World) :
    Calls Try.prog 13 #[.int .i64 now] w fun e w' => ∃ p cap, e = .returned (.slice p 1 cap) ∧ Hid (Bts w' (.slice p 1 cap) [⟨0, clamp now⟩]) ∧ Hid (Below w.heap.size w w') := by
  refine (bstart_any now w).mono ?_
  rintro e w' ⟨v', rfl, hf, hb⟩
  obtain ⟨p, cap, rfl, hc, hs⟩ := bts_of_fresh hf.fresh
  exact ⟨p, cap, rfl, Lib.hid hs, Lib.hid hb⟩
/-- heartbeats stay -/
theorem bts_keep {w w' : World} {v : Value} {l : List Bt} (h : Hid (Bts w v l)) (hb : Hid (Below w.heap.size w w')) : Hid (Bts w' v l) := Lib.hid (h.out.keep (by decide) hb.out)

set_option maxHeartbeats 1000000 in
theorem small14_any (w : World) :
    Calls Try.prog 9 #[] w fun e w' => e = .returned (.bool true) ∧ Below w.heap.size w w' := by
  go_enter Try.func9, Try.ntmps9
  go_wp2_with fail
  refine (start_at _ _).mono ?_; rintro e w1 ⟨p1, cap1, rfl, S1, B1⟩
  go_wp2_with fail
  refine (beat_at _ _ [⟨0, 100⟩, ⟨1, 104⟩] true _ _ _ S1.out (by decide) (by decide) (by decide)).mono ?_; rintro e w2 ⟨p2, cap2, rfl, F2, B2⟩
  have S2 : Hid (Bts w2 _ _) := Lib.hid F2.out.1
  go_wp2_with fail
  refine (beat_at _ _ [⟨0, 100⟩, ⟨1, 104⟩, ⟨2, 112⟩] true _ _ _ S2.out (by decide) (by decide) (by decide)).mono ?_; rintro e w3 ⟨p3, cap3, rfl, F3, B3⟩
  have S3 : Hid (Bts w3 _ _) := Lib.hid F3.out.1
  go_wp2_with fail
  refine (beat_at _ _ [⟨0, 100⟩, ⟨1, 104⟩, ⟨2, 112⟩] false _ _ _ S3.out (by decide) (by decide) (by decide)).mono ?_; rintro e w4 ⟨p4, cap4, rfl, F4, B4⟩
  go_wp2_with fail
  refine (beat_at _ _ [⟨0, 100⟩, ⟨1, 104⟩, ⟨2, 112⟩] false _ _ _ (bts_keep S3 B4).out (by decide) (by decide) (by decide)).mono ?_; rintro e w5 ⟨p5, cap5, rfl, F5, B5⟩
  have B15 := Lib.hid (chain B1.out (chain B2.out (chain B3.out (chain B4.out B5.out))))
  have S15 := bts_keep (bts_keep (bts_keep (bts_keep S1 B2) B3) B4) B5
  have S25 := bts_keep (bts_keep (bts_keep S2 B3) B4) B5
  have S35 := bts_keep (bts_keep S3 B4) B5
  go_wp2_with fail
  have BA := Lib.hid ((Below.refl w5.heap.size w5).alloc (Nat.le_refl _) (.cells #[.int .i64 0, .int .i64 100] 30))
  refine (same_at _ _ _ [⟨0, 100⟩] true _ (bts_keep S15 BA).out (own_lit 30 2 0 w5 _ #[.int .i64 0, .int .i64 100] 1 rfl (Nat.zero_le _) (by decide) rfl _ rfl).sl (by decide)).mono ?_; rintro e w6 ⟨rfl, B6⟩
  have B56 := Lib.hid (chain BA.out B6.out)
  have S16 := bts_keep S15 B56
  have S26 := bts_keep S25 B56
  have S36 := bts_keep S35 B56
  have B16 := Lib.hid (chain B15.out B56.out)
  go_wp2_with fail
  refine (dl_at _ _ 110 _ S16.out (by decide) (by decide +kernel)).mono ?_; rintro e w7 ⟨rfl, B7⟩
  go_wp2_with fail
  refine (dl_at _ _ 114 _ (bts_keep S26 B7).out (by decide) (by decide +kernel)).mono ?_; rintro e w8 ⟨rfl, B8⟩
  have B68 := Lib.hid (chain B7.out B8.out)
  have S38 := bts_keep S36 B68
  go_wp2_with fail
  refine (dl_at _ _ 119 _ S38.out (by decide) (by decide +kernel)).mono ?_; rintro e w9 ⟨rfl, B9⟩
  go_wp2_with fail
  refine (right_at _ _ true _ (bts_keep S38 B9).out (by decide)).mono ?_; rintro e w10 ⟨rfl, B10⟩
  go_wp2_with fail
  refine (right_at _ [] false _ (sl_nil 2 w10) (by decide)).mono ?_; rintro e w11 ⟨rfl, B11⟩
  go_wp2_with fail
  go_ret
  exact ⟨rfl, chain B16.out (chain B68.out (chain B9.out (chain B10.out B11.out)))⟩
/-- 'small', hidden -/
theorem small_at (w : World) : Calls Try.prog 9 #[] w fun e w' => e = .returned (.bool true) ∧ Hid (Below w.heap.size w w') :=
  (small14_any w).mono fun e w' ⟨he, hb⟩ => ⟨he, Lib.hid hb⟩
theorem bts_shape {w : World} {v : Value} {l : List Bt} (h : Bts w v l) : ∃ p cap, v = .slice p l.length cap ∧ l.length ≤ cap := by
  obtain ⟨_, _, p, cap, rfl, hcap, _⟩ := h
  exact ⟨p, cap, rfl, hcap⟩
/-- element i's two cells, in a later world -/
theorem bts_at {w w' : World} {b o cap : Nat} {l : List Bt} {n : Nat} (h : Hid (Bts w (.slice (some ⟨b, o, none⟩) n cap) l)) (hb : Below w.heap.size w w') (i : Nat) (hi : i < l.length) :
    w'.cell? ⟨b, o + i * 2, none⟩ = some (.int .i64 l[i].seq) ∧ w'.cell? ⟨b, o + i * 2 + 1, none⟩ = some (.int .i64 l[i].at_) :=
  ⟨Sl.elem bt_two (h.out.keep (by decide) hb) i 0 hi (by decide) _ rfl, Sl.elem bt_two (h.out.keep (by decide) hb) i 1 hi (by decide) _ rfl⟩
theorem rstart_at (now : Int) (w : World) :
    Calls Try.prog 14 #[.int .i64 now] w fun e w' => ∃ p cap, e = .returned (.slice p 1 cap) ∧ Hid (Bts w' (.slice p 1 cap) [⟨0, clamp now⟩]) ∧ Hid (Below w.heap.size w w') := by
  go_enter Try.func14, Try.ntmps14
  go_wp2_with (first | (go_at_call 22; refine (rclamp_any _ _).mono ?_; rintro e w' ⟨rfl, rfl⟩))
  go_ret
  exact ⟨_, _, rfl, Lib.hid (own_lit 30 _ 0 _ _ _ _ rfl (Nat.zero_le _) (by decide) rfl _ rfl).sl, Lib.hid ((Below.refl _ _).alloc (Nat.le_refl _) _)⟩
theorem rbeat_at (v : Value) (l l' : List Bt) (ok : Bool) (seq now : Int) (w : World) (h : Bts w v l) (hr : btRight l = true) (he : btBeat l seq now = (l', ok)) :
    Calls Try.prog 16 #[v, .int .i64 seq, .int .i64 now] w fun e w' => ∃ p cap, e = .returned (.tuple #[.slice p l'.length cap, .bool ok]) ∧ Hid (Fresh 2 w.heap.size w' (.slice p l'.length cap) l'.length (flat Bt.cells l')) ∧ Hid (Below w.heap.size w w') := by
  refine (rbeat_any v l seq now w h hr).mono ?_
  rintro e w' ⟨v', rfl, hf, hb⟩
  rw [he] at hf ⊢
  obtain ⟨p, cap, rfl, hc, hs⟩ := bts_of_fresh hf
  exact ⟨p, cap, rfl, Lib.hid hf, Lib.hid hb⟩
theorem rdl_at (v : Value) (l : List Bt) (d : Int) (w : World) (h : Bts w v l) (hr : btRight l = true) (hd : btDeadline l = d) :
    Calls Try.prog 18 #[v] w fun e w' => e = .returned (.int .i64 d) ∧ Hid (Below w.heap.size w w') :=
  (rdeadline_any v l w h hr).mono fun e w' ⟨he, hb⟩ => ⟨by rw [he, hd], Lib.hid hb⟩
theorem rright_at (v : Value) (l : List Bt) (d : Bool) (w : World) (h : Bts w v l) (hd : btRight l = d) :
    Calls Try.prog 11 #[v] w fun e w' => e = .returned (.bool d) ∧ Hid (Below w.heap.size w w') :=
  (rright_any v l w h).mono fun e w' ⟨he, hb⟩ => ⟨by rw [he, hd], Lib.hid hb⟩
end Go.Proofs.Ytdflajgglgbphaa.K
namespace Nj
open Go Go.RowKit
/-- a store: whatever was a cell is one, the marks stay -/
theorem set_cell (w : World) (pb po : Nat) (u : Value) (b i : Nat) (h : ∃ v, w.cell? ⟨b, i, none⟩ = some v) : ∃ v, (w.setCell ⟨pb, po, none⟩ u).cell? ⟨b, i, none⟩ = some v := by
  obtain ⟨v, h⟩ := h
  unfold World.cell? at h ⊢
  simp only [World.setCell, Array.getElem?_modify]
  by_cases e : pb = b
  · subst e
    cases hx : w.heap[pb]? with
    | none => simp [hx] at h
    | some ob =>
      cases ob with
      | cells c t fr =>
        simp only [hx] at h
        simp only [if_true, Option.map_some]
        by_cases hi : po = i
        · subst hi
          have hlt : po < c.size := by
            rcases Nat.lt_or_ge po c.size with hh | hh
            · exact hh
            · rw [Array.getElem?_eq_none hh] at h; cases h
          exact ⟨u, by simp [Array.getElem?_setIfInBounds, hlt]⟩
        · exact ⟨v, by simpa [Array.getElem?_setIfInBounds_ne hi] using h⟩
      | _ => simp [hx] at h
  · exact ⟨v, by rw [if_neg e]; exact h⟩
theorem set_frozen (w : World) (p : Addr) (u : Value) (b i : Nat) : (w.setCell p u).frozen? ⟨b, i, none⟩ = w.frozen? ⟨b, i, none⟩ := by
  unfold World.frozen?
  simp only [World.setCell, Array.getElem?_modify]
  by_cases e : p.block = b
  · subst e
    cases hx : w.heap[p.block]? with
    | none => simp
    | some ob => cases ob <;> simp
  · rw [if_neg e]
theorem Own.set {E : TypeId} {sz B : Nat} {w : World} {v : Value} {n : Nat} {cells : List Value} (h : Own E sz B w v n cells) (p : Addr) (u : Value) (hp : p.block < B) : Own E sz B (w.setCell p u) v n cells := by
  obtain ⟨hl, h | ⟨g, cap, cur, rfl, hg, hh, r⟩⟩ := h
  · exact ⟨hl, .inl h⟩
  · exact ⟨hl, .inr ⟨g, cap, cur, rfl, hg, by rw [Below.heap_setCell _ _ _ _ (by omega)]; exact hh, r⟩⟩
end Nj
