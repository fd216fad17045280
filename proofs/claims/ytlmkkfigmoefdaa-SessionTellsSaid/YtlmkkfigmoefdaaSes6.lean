/-
  CONTRACTS of package session: pieces (numbers), Of, Statuses; pieces (sessions), Copy.
-/
import Derived.Test.YtlmkkfigmoefdaaSes2
import Derived.Test.YtlmkkfigmoefdaaSesBaseR
set_option linter.unusedVariables false
set_option linter.unusedSimpArgs false
namespace Go.Proofs.Ytlmkkfigmoefdaa.K
open Go Go.RowKit Nj

theorem filter_take_no {α : Type} {l : List α} {p : α → Bool} {k : Nat} (hk : k < l.length) (h : p l[k] = false) : (l.take (k + 1)).filter p = (l.take k).filter p := by
  rw [List.take_add_one, List.getElem?_eq_getElem hk, List.filter_append]; simp [h]
theorem filter_take_yes {α : Type} {l : List α} {p : α → Bool} {k : Nat} (hk : k < l.length) (h : p l[k] = true) : (l.take (k + 1)).filter p = (l.take k).filter p ++ [l[k]] := by
  rw [List.take_add_one, List.getElem?_eq_getElem hk, List.filter_append]; simp [h]

set_option maxRecDepth 100000 in
set_option maxHeartbeats 8000000 in
theorem pieces_int_any (F G : FuncId) (caps : Array Value) (v : Value) (l : List Sv) (pred : Sv → Bool) (val : Sv → Int) (w : World) (h : Sess w v l) (hl : l.length ≤ 1000)
    (hF : ∀ args W, (callFunc F args).run Try.prog W = .ok (.enter F args) W) (hG : ∀ args W, (callFunc G args).run Try.prog W = .ok (.enter G args) W)
    (hcf : ∀ (x : Sv) W, Below w.heap.size w W → Calls Try.prog F (#[.agg x.cells.toArray] ++ caps) W fun e W' => e = .returned (.bool (pred x)) ∧ Hid (Below W.heap.size W W'))
    (hcg : ∀ (x : Sv) W, Calls Try.prog G #[.agg x.cells.toArray] W fun e W' => e = .returned (.int .i64 (val x)) ∧ Hid (Below W.heap.size W W')) :
    Calls Try.prog 45 #[v, .func (.func F) #[] caps, .func (.func G) #[] #[]] w fun e w' =>
      ∃ p cap, e = .returned (.slice p ((l.filter pred).map val).length cap) ∧ Hid (Own 3 1 w.heap.size w' (.slice p ((l.filter pred).map val).length cap) ((l.filter pred).map val).length (((l.filter pred).map val).map (Value.int .i64))) ∧ Hid (Below w.heap.size w w') := by
  obtain ⟨p, cap, rfl, hcap⟩ := sess_shape h
  have HS := Lib.hid h.1
  have HF := Lib.hid hcf
  have HG := Lib.hid hcg
  clear h hcf hcg
  go_enter Try.func45, Try.ntmps45
  go_wp2_with fail
  go_loopw [6, 11] (fun ov i wr => ∃ (k : Nat) (xs : List Int) (po : Option Addr) (capo : Nat), k ≤ l.length ∧ i = .int .i64 k ∧ xs = ((l.take k).filter pred).map val ∧ ov = .slice po xs.length capo ∧ Own 3 1 w.heap.size wr (.slice po xs.length capo) xs.length (xs.map (Value.int .i64)) ∧ Below w.heap.size w wr) (fun _ i _ => l.length - (intOf i).toNat)
  case atStart => exact ⟨0, [], none, 0, by omega, rfl, by simp, rfl, own_nil _ _ _ _, Below.refl _ _⟩
  case round =>
    obtain ⟨k, xs, po, capo, hk, rfl, hxs, rfl, ho, hb⟩ := hrel
    have HX := Lib.hid hxs
    have HO := Lib.hid ho
    have BA := Lib.hid hb
    have hxl : xs.length ≤ 1000 := by
      rw [hxs, List.length_map]
      exact Nat.le_trans (List.length_filter_le _ _) (by rw [List.length_take]; omega)
    clear hxs ho hb
    by_cases hlt : k < l.length
    · obtain ⟨b, o, rfl, _⟩ := HS.out.open (by omega)
      obtain ⟨x, hx⟩ : ∃ x, x = l[k] := ⟨_, rfl⟩
      have R0 := Lib.hid (ses_row (HS.out.keep (by decide) BA.out) k hlt x hx)
      have HXx := Lib.hid hx
      have t1 : (k : Int) < (l.length : Int) := by omega
      have t2 : (0 : Int) ≤ (k : Int) := by omega
      clear hx
      go_wp2_with (first | (refine ldl R0 rfl rfl rfl ?_) | (refine stl (Lib.hid (heap_new wr (.cells #[.int .i64 0, .int .i64 0, .int .i64 0, .int .i64 0, .int .u8 0, .int .u8 0, .int .u8 0, .int .u8 0, .int .u8 0, .int .u8 0, .int .u8 0, .int .u8 0, .int .u8 0, .int .u8 0, .int .u8 0, .int .u8 0, .int .u8 0, .int .u8 0, .int .u8 0, .int .u8 0, .int .i64 0, .int .i64 0, .int .i64 0, .slice none 0 0, .int .i64 0, .int .i64 0, .int .i64 0, .slice none 0 0, .int .i64 0, .int .i64 0, .int .i64 0, .int .i64 0, .int .i64 0, .int .i64 0, .bool false] 38) wr.heap.size rfl)) rfl rfl rfl rfl rfl ?_; intro w3 A8 M3; have B3 := Lib.hid (Mod.below (B := wr.heap.size) M3.out ((Below.refl wr.heap.size wr).alloc (Nat.le_refl _) _) (by simp) (fun k hk => by omega)); replace BA := Lib.hid (chain BA.out B3.out); replace HO := Lib.hid (HO.out.keep B3.out); have R8 := Lib.hid (rangeAt_block A8.out)) | (refine ldl R8 rfl rfl rfl ?_))
      refine (HF.out x _ BA.out).mono ?_
      rintro e w4 ⟨rfl, B4⟩
      replace BA := Lib.hid (chain BA.out B4.out)
      replace HO := Lib.hid (HO.out.keep B4.out)
      have R9 := Lib.hid (rangeAt_keep R8.out B4.out)
      cases hp : pred x
      · have HX2 := Lib.hid (show xs = ((l.take (k + 1)).filter pred).map val by rw [filter_take_no hlt (by rw [← HXx.out]; exact hp)]; exact HX.out)
        clear hp
        go_wp2_with fail
        go_roundw
        case rel => exact ⟨k + 1, xs, po, capo, by omega, by go_num, HX2.out, rfl, HO.out, BA.out⟩
        case measure => simp [intOf]; omega
      · have HX2 := Lib.hid (show xs ++ [val x] = ((l.take (k + 1)).filter pred).map val by rw [filter_take_yes hlt (by rw [← HXx.out]; exact hp), List.map_append, ← HX.out, ← HXx.out]; rfl)
        clear hp
        go_wp2_with (refine ldl R9 rfl rfl rfl ?_)
        refine (HG.out x _).mono ?_
        rintro e w5 ⟨rfl, B5⟩
        replace BA := Lib.hid (chain BA.out B5.out)
        replace HO := Lib.hid (HO.out.keep B5.out)
        go_wp2_with (at_builtin; refine wpList_app rfl (.tmp 18) (.tmp 22) 54 rfl w.heap.size 3 (.int .i64 0) 1 8 Try.underlying54 (by kernel_rfl) rfl (by decide) w.heap.size w (Lib.hid (BA.out.alloc BA.out.size _)) (by omega) (Lib.hid (HO.out.alloc _)) rfl ⟨w5.heap.size, 0, none⟩ 1 1 rfl [.int .i64 (val x)] rfl (Lib.hid (news_new (heap_new _ _ _ rfl))) (by simp [Value.oneCell']) (by omega) (by omega) (by have := BA.out.size; simp; omega) ?_; intro p2 cap2 w8 hc2 HO8 HB8 HK8)
        go_roundw
        case rel =>
          refine ⟨k + 1, xs ++ [val x], p2, cap2, by omega, by go_num, HX2.out, by simp, ?_, HB8.out⟩
          have := HO8.out
          simpa using this
        case measure => simp [intOf]; omega
    · have hke : k = l.length := by omega
      subst hke
      have HX2 := Lib.hid (show xs = (l.filter pred).map val by have := HX.out; rwa [List.take_length] at this)
      have t1 : decide ((l.length : Int) < (l.length : Int)) = false := by simp
      go_wp2_with fail
      go_ret
      rw [← HX2.out]
      exact ⟨po, capo, rfl, HO, BA⟩
/-- numbers, in memory of the call's own -/
def RetInts (w : World) (xs : List Int) (e : Ending) (w' : World) : Prop := ∃ p cap, e = .returned (.slice p xs.length cap) ∧ Hid (Own 3 1 w.heap.size w' (.slice p xs.length cap) xs.length (xs.map (Value.int .i64))) ∧ Hid (Below w.heap.size w w')

set_option maxRecDepth 100000 in
theorem of1_any (x : Sv) (b : Nat) (i : Int) (w : World) (hb : Hid (w.heap[b]? = some (.cells #[.int .i64 i] 3))) :
    Calls Try.prog 46 #[.agg x.cells.toArray, .pointer (some ⟨b, 0, none⟩)] w fun e w' => e = .returned (.bool (decide (x.s.user = i))) ∧ Hid (Below w.heap.size w w') := by
  go_enter Try.func46, Try.ntmps46
  go_upto_region 1 with fail
  refine gen_wp (fun w1 => Hid (Below w.heap.size w w1) ∧ Hid (w1.heap[w.heap.size]? = some (.cells x.cells.toArray 38)) ∧ Hid (w1.heap[b]? = some (.cells #[.int .i64 i] 3)) ∧ True) ⟨Lib.hid (by (repeat (first | (with_reducible exact Below.refl _ _) | (with_reducible refine bel_set (by first | omega | (simp; done) | (simp; omega)) ?_) | (with_reducible refine bel_alloc (by first | omega | (simp; done) | (simp; omega)) ?_) | (with_reducible refine bel_drew ?_) | (with_reducible refine bel_drewN ?_ _))); first | done | fail "left"), Lib.hid (heap_new _ _ _ rfl), Lib.hid (keepa hb.out _), trivial⟩ ?_
  rintro w1 ⟨BA, A2, A1, -⟩
  have c_A1 := cell_of_block A1.out
  have f_A1 := frozen_of_block A1.out
  have g0 := g_user (rangeAt_block A2.out)
  go_wp2_with fail
  go_ret
  exact ⟨ret_bool (by rw [Bool.eq_iff_iff]; simp), BA⟩
set_option maxRecDepth 100000 in
theorem of2_any (x : Sv) (w : World) :
    Calls Try.prog 47 #[.agg x.cells.toArray] w fun e w' => e = .returned (.int .i64 x.s.id) ∧ Hid (Below w.heap.size w w') := by
  go_enter Try.func47, Try.ntmps47
  go_upto_region 1 with fail
  refine gen_wp (fun w1 => Hid (Below w.heap.size w w1) ∧ Hid (w1.heap[w.heap.size]? = some (.cells x.cells.toArray 38)) ∧ True) ⟨Lib.hid (by (repeat (first | (with_reducible exact Below.refl _ _) | (with_reducible refine bel_set (by first | omega | (simp; done) | (simp; omega)) ?_) | (with_reducible refine bel_alloc (by first | omega | (simp; done) | (simp; omega)) ?_) | (with_reducible refine bel_drew ?_) | (with_reducible refine bel_drewN ?_ _))); first | done | fail "left"), Lib.hid (heap_new _ _ _ rfl), trivial⟩ ?_
  rintro w1 ⟨BA, A2, -⟩
  have g0 := g_id (rangeAt_block A2.out)
  go_wp2_with fail
  go_ret
  exact ⟨rfl, BA⟩
set_option maxHeartbeats 2000000 in
theorem sesof_any (v : Value) (l : List Sv) (u : Int) (w : World) (h : Sess w v l) (hl : l.length ≤ 1000) (xs : List Int) (hxs : sesOf (cons l) u = xs) :
    Calls Try.prog 26 #[v, .int .i64 u] w (RetInts w xs) := by
  obtain ⟨p, cap, rfl, hcap⟩ := sess_shape h
  have HS := Lib.hid h
  have HX := Lib.hid (show xs = (l.filter (fun x => decide (x.s.user = u))).map (fun x => x.s.id) by
    rw [← hxs]; unfold sesOf cons; rw [List.filter_map, List.map_map]; rfl)
  clear h hxs
  go_enter Try.func26, Try.ntmps26
  go_upto_region 1 with fail
  refine gen_wp (fun w1 => Hid (Below w.heap.size w w1) ∧ Hid (w1.heap[w.heap.size]? = some (.cells #[.int .i64 u] 3)) ∧ True) ⟨Lib.hid (by (repeat (first | (with_reducible exact Below.refl _ _) | (with_reducible refine bel_set (by first | omega | (simp; done) | (simp; omega)) ?_) | (with_reducible refine bel_alloc (by first | omega | (simp; done) | (simp; omega)) ?_) | (with_reducible refine bel_drew ?_) | (with_reducible refine bel_drewN ?_ _))); first | done | fail "left"), Lib.hid (by first | (simp [World.setCell, Array.getElem?_modify]; done) | (simp [World.setCell, Array.getElem?_modify]; omega) | ((repeat (first | (with_reducible exact heap_new _ _ _ (by first | rfl | (simp; done))) | (with_reducible refine keepa ?_ _) | (simp [World.setCell, Array.getElem?_modify]; done))); done)), trivial⟩ ?_
  rintro w1 ⟨BA, A1, -⟩
  have c_A1 := cell_of_block A1.out
  have f_A1 := frozen_of_block A1.out
  have hb1 := block_lt A1.out
  go_wp2_with fail
  refine (pieces_int_any 46 47 #[.pointer (some ⟨w.heap.size, 0, none⟩)] _ l (fun x => decide (x.s.user = u)) (fun x => x.s.id) w1 (HS.out.keep BA.out) hl (fun args W => by go_simp) (fun args W => by go_simp)
    (fun x W hW => of1_any x w.heap.size u W (Lib.hid (keepb A1.out hW))) (fun x W => of2_any x W)).mono ?_
  rw [← HX.out]
  rintro e w2 ⟨p2, cap2, rfl, O2, B2⟩
  replace BA := Lib.hid (chain BA.out B2.out)
  go_wp2_with fail
  go_ret
  exact ⟨p2, cap2, rfl, Lib.hid (Own.mono O2.out (by omega)), BA⟩

set_option maxRecDepth 100000 in
theorem statuses1_any (x : Sv) (b : Nat) (i : Int) (w : World) (hb : Hid (w.heap[b]? = some (.cells #[.int .i64 i] 3))) :
    Calls Try.prog 48 #[.agg x.cells.toArray, .pointer (some ⟨b, 0, none⟩)] w fun e w' => e = .returned (.bool (decide (x.s.user = i))) ∧ Hid (Below w.heap.size w w') := by
  go_enter Try.func48, Try.ntmps48
  go_upto_region 1 with fail
  refine gen_wp (fun w1 => Hid (Below w.heap.size w w1) ∧ Hid (w1.heap[w.heap.size]? = some (.cells x.cells.toArray 38)) ∧ Hid (w1.heap[b]? = some (.cells #[.int .i64 i] 3)) ∧ True) ⟨Lib.hid (by (repeat (first | (with_reducible exact Below.refl _ _) | (with_reducible refine bel_set (by first | omega | (simp; done) | (simp; omega)) ?_) | (with_reducible refine bel_alloc (by first | omega | (simp; done) | (simp; omega)) ?_) | (with_reducible refine bel_drew ?_) | (with_reducible refine bel_drewN ?_ _))); first | done | fail "left"), Lib.hid (heap_new _ _ _ rfl), Lib.hid (keepa hb.out _), trivial⟩ ?_
  rintro w1 ⟨BA, A2, A1, -⟩
  have c_A1 := cell_of_block A1.out
  have f_A1 := frozen_of_block A1.out
  have g0 := g_user (rangeAt_block A2.out)
  go_wp2_with fail
  go_ret
  exact ⟨ret_bool (by rw [Bool.eq_iff_iff]; simp), BA⟩
set_option maxRecDepth 100000 in
theorem statuses2_any (x : Sv) (w : World) :
    Calls Try.prog 49 #[.agg x.cells.toArray] w fun e w' => e = .returned (.int .i64 x.s.status) ∧ Hid (Below w.heap.size w w') := by
  go_enter Try.func49, Try.ntmps49
  go_upto_region 1 with fail
  refine gen_wp (fun w1 => Hid (Below w.heap.size w w1) ∧ Hid (w1.heap[w.heap.size]? = some (.cells x.cells.toArray 38)) ∧ True) ⟨Lib.hid (by (repeat (first | (with_reducible exact Below.refl _ _) | (with_reducible refine bel_set (by first | omega | (simp; done) | (simp; omega)) ?_) | (with_reducible refine bel_alloc (by first | omega | (simp; done) | (simp; omega)) ?_) | (with_reducible refine bel_drew ?_) | (with_reducible refine bel_drewN ?_ _))); first | done | fail "left"), Lib.hid (heap_new _ _ _ rfl), trivial⟩ ?_
  rintro w1 ⟨BA, A2, -⟩
  have g0 := g_status (rangeAt_block A2.out)
  go_wp2_with fail
  go_ret
  exact ⟨rfl, BA⟩
set_option maxHeartbeats 2000000 in
theorem sesstatuses_any (v : Value) (l : List Sv) (u : Int) (w : World) (h : Sess w v l) (hl : l.length ≤ 1000) (xs : List Int) (hxs : sesStat (cons l) u = xs) :
    Calls Try.prog 28 #[v, .int .i64 u] w (RetInts w xs) := by
  obtain ⟨p, cap, rfl, hcap⟩ := sess_shape h
  have HS := Lib.hid h
  have HX := Lib.hid (show xs = (l.filter (fun x => decide (x.s.user = u))).map (fun x => x.s.status) by
    rw [← hxs]; unfold sesStat cons; rw [List.filter_map, List.map_map]; rfl)
  clear h hxs
  go_enter Try.func28, Try.ntmps28
  go_upto_region 1 with fail
  refine gen_wp (fun w1 => Hid (Below w.heap.size w w1) ∧ Hid (w1.heap[w.heap.size]? = some (.cells #[.int .i64 u] 3)) ∧ True) ⟨Lib.hid (by (repeat (first | (with_reducible exact Below.refl _ _) | (with_reducible refine bel_set (by first | omega | (simp; done) | (simp; omega)) ?_) | (with_reducible refine bel_alloc (by first | omega | (simp; done) | (simp; omega)) ?_) | (with_reducible refine bel_drew ?_) | (with_reducible refine bel_drewN ?_ _))); first | done | fail "left"), Lib.hid (by first | (simp [World.setCell, Array.getElem?_modify]; done) | (simp [World.setCell, Array.getElem?_modify]; omega) | ((repeat (first | (with_reducible exact heap_new _ _ _ (by first | rfl | (simp; done))) | (with_reducible refine keepa ?_ _) | (simp [World.setCell, Array.getElem?_modify]; done))); done)), trivial⟩ ?_
  rintro w1 ⟨BA, A1, -⟩
  have c_A1 := cell_of_block A1.out
  have f_A1 := frozen_of_block A1.out
  have hb1 := block_lt A1.out
  go_wp2_with fail
  refine (pieces_int_any 48 49 #[.pointer (some ⟨w.heap.size, 0, none⟩)] _ l (fun x => decide (x.s.user = u)) (fun x => x.s.status) w1 (HS.out.keep BA.out) hl (fun args W => by go_simp) (fun args W => by go_simp)
    (fun x W hW => statuses1_any x w.heap.size u W (Lib.hid (keepb A1.out hW))) (fun x W => statuses2_any x W)).mono ?_
  rw [← HX.out]
  rintro e w2 ⟨p2, cap2, rfl, O2, B2⟩
  replace BA := Lib.hid (chain BA.out B2.out)
  go_wp2_with fail
  go_ret
  exact ⟨p2, cap2, rfl, Lib.hid (Own.mono O2.out (by omega)), BA⟩

end Go.Proofs.Ytlmkkfigmoefdaa.K
