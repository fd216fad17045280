/-
  CONTRACTS of package session: pieces (sessions), Copy.
-/
import Derived.Test.YtlmkkfigmoefdaaSes6
import Derived.Test.YtlmkkfigmoefdaaSesBaseR
set_option linter.unusedVariables false
set_option linter.unusedSimpArgs false
namespace Go.Proofs.Ytlmkkfigmoefdaa.K
open Go Go.RowKit Nj

theorem foldl_set_zip : ∀ (ys : List Value) (k : Nat) (zs : Array Value), k + ys.length = zs.size → (List.foldl (fun (cs : Array Value) (x : Value × Nat) => cs.setIfInBounds x.snd x.fst) zs (ys.zipIdx k)).toList = zs.toList.take k ++ ys
  | [], k, zs, h => by
    simp only [List.zipIdx_nil, List.foldl_nil, List.append_nil]
    rw [List.take_of_length_le (by simpa using Nat.le_of_eq h.symm)]
  | y :: ys, k, zs, h => by
    rw [List.zipIdx_cons, List.foldl_cons, foldl_set_zip ys (k + 1) _ (by simp at h ⊢; omega)]
    have ho : k < zs.toList.length := by simp at h ⊢; omega
    rw [Array.toList_setIfInBounds, List.take_add_one, List.take_set_of_le (Nat.le_refl _), List.getElem?_set_self ho]
    simp
/-- a row literal of one session -/
theorem build_ses (zs : Array Value) (y : Sv) (hz : zs.size = 35) : List.foldl (fun (cs : Array Value) (x : Value × Nat) => cs.setIfInBounds x.snd x.fst) zs y.cells.zipIdx = y.cells.toArray := by
  have h := foldl_set_zip y.cells 0 zs (by rw [sv_len, hz])
  rw [List.take_zero, List.nil_append] at h
  exact Array.toArray_toList.symm.trans (congrArg List.toArray h)

theorem copy1_any (x : Sv) (w : World) :
    Calls Try.prog 55 #[.agg x.cells.toArray] w fun e w' => e = .returned (.bool true) ∧ Hid (Below w.heap.size w w') := by
  go_enter Try.func55, Try.ntmps55
  go_wp2_with fail
  go_ret
  exact ⟨rfl, Lib.hid (below_alloc _ _)⟩

/-- a table of the call's own, that holds these sessions -/
def RetTab (w : World) (t : List Ses) (e : Ending) (w' : World) : Prop := ∃ (p : Option Addr) (cap : Nat) (L : List Sv), cons L = t ∧ e = .returned (.slice p L.length cap) ∧ Hid (OwnS 38 57 85 w.heap.size w' (.slice p L.length cap) L) ∧ Hid (Below w.heap.size w w')

set_option maxRecDepth 100000 in
set_option maxHeartbeats 8000000 in
theorem pieces_ses_any (v : Value) (l : List Sv) (w : World) (h : Sess w v l) (hl : SmS (cons l)) :
    Calls Try.prog 54 #[v, .func (.func 55) #[] #[], .func (.func 40) #[] #[]] w (RetTab w (cons l)) := by
  obtain ⟨p, cap, rfl, hcap⟩ := sess_shape h
  have HS := Lib.hid h
  have hl0 : l.length ≤ 1000 := by have := hl.1; simpa [cons] using this
  have HL := Lib.hid (show ∀ x ∈ l, x.s.beats.length ≤ 1000 ∧ x.s.ch.send.fl.length ≤ 1000 from fun x hx => hl.2 x.s (by simp only [cons, List.mem_map]; exact ⟨x, hx, rfl⟩))
  have hm : l.length ≤ 9223372036854775807 := by omega
  clear h hl
  go_enter Try.func54, Try.ntmps54
  go_wp2_with fail
  go_loopw [6, 11] (fun ov i wr => ∃ (k : Nat) (L : List Sv) (po : Option Addr) (capo : Nat), k ≤ l.length ∧ i = .int .i64 k ∧ cons L = (cons l).take k ∧ ov = .slice po L.length capo ∧ OwnS 38 57 85 w.heap.size wr (.slice po L.length capo) L ∧ Below w.heap.size w wr) (fun _ i _ => l.length - (intOf i).toNat)
  case atStart => exact ⟨0, [], none, 0, by omega, rfl, by simp [cons], rfl, owns_nil _ _ _ _ _, Below.refl _ _⟩
  case round =>
    obtain ⟨k, L, po, capo, hk, rfl, hL, rfl, ho, hb⟩ := hrel
    have HLk := Lib.hid hL
    have HO := Lib.hid ho
    have BA := Lib.hid hb
    have hLl : L.length = k := by
      have := congrArg List.length hL
      simp [cons] at this; omega
    clear hL ho hb
    by_cases hlt : k < l.length
    · obtain ⟨b, o, rfl, _⟩ := HS.out.1.open (by omega)
      obtain ⟨x, hx⟩ : ∃ x, x = l[k] := ⟨_, rfl⟩
      have R0 := Lib.hid (ses_row (HS.out.1.keep (by decide) BA.out) k hlt x hx)
      have hxm : x ∈ l := by rw [hx]; exact List.getElem_mem hlt
      have HSx := Lib.hid (HS.out.2 x hxm)
      have HLx := Lib.hid (HL.out x hxm)
      have HXx := Lib.hid hx
      have t1 : (k : Int) < (l.length : Int) := by omega
      have t2 : (0 : Int) ≤ (k : Int) := by omega
      have HL1 := Lib.hid (show L.length ≤ 1000 by omega)
      clear hx hxm hLl
      go_wp2_with (first | (refine ldl R0 rfl rfl rfl ?_) | (refine stl (Lib.hid (heap_new wr (.cells #[.int .i64 0, .int .i64 0, .int .i64 0, .int .i64 0, .int .u8 0, .int .u8 0, .int .u8 0, .int .u8 0, .int .u8 0, .int .u8 0, .int .u8 0, .int .u8 0, .int .u8 0, .int .u8 0, .int .u8 0, .int .u8 0, .int .u8 0, .int .u8 0, .int .u8 0, .int .u8 0, .int .i64 0, .int .i64 0, .int .i64 0, .slice none 0 0, .int .i64 0, .int .i64 0, .int .i64 0, .slice none 0 0, .int .i64 0, .int .i64 0, .int .i64 0, .int .i64 0, .int .i64 0, .int .i64 0, .bool false] 38) wr.heap.size rfl)) rfl rfl rfl rfl rfl ?_; intro w3 A8 M3; have B3 := Lib.hid (Mod.below (B := wr.heap.size) M3.out ((Below.refl wr.heap.size wr).alloc (Nat.le_refl _) _) (by simp) (fun k hk => by omega)); replace BA := Lib.hid (chain BA.out B3.out); replace HO := Lib.hid (HO.out.keep B3.out); have R8 := Lib.hid (rangeAt_block A8.out)) | (refine ldl R8 rfl rfl rfl ?_))
      refine (copy1_any x _).mono ?_
      rintro e w4 ⟨rfl, B4⟩
      replace BA := Lib.hid (chain BA.out B4.out)
      replace HO := Lib.hid (HO.out.keep B4.out)
      have R9 := Lib.hid (rangeAt_keep R8.out B4.out)
      go_wp2_with (refine ldl R9 rfl rfl rfl ?_)
      refine (sesown_any x _ (HSx.out.keep BA.out) HLx.out.1 HLx.out.2).mono ?_
      rintro e w5 ⟨y, hy, rfl, HY, B5⟩
      have HYs := Lib.hid hy
      have hz5 : w.heap.size ≤ w4.heap.size := BA.out.size
      replace BA := Lib.hid (chain BA.out B5.out)
      replace HO := Lib.hid (HO.out.keep B5.out)
      replace HY := Lib.hid (HY.out.mono hz5)
      clear hy R0 R8 R9 A8 B3 B4 B5 HSx
      have HOr := Lib.hid HO.out.row
      have ylen := sv_len y
      have hLs := HL1.out
      go_wp2_with (at_builtin; rw [build_ses]; rotate_left; rfl; refine wpList_app rfl (.tmp 18) (.tmp 22) 22 rfl w.heap.size 38 (.agg #[.int .i64 0, .int .i64 0, .int .i64 0, .int .i64 0, .int .u8 0, .int .u8 0, .int .u8 0, .int .u8 0, .int .u8 0, .int .u8 0, .int .u8 0, .int .u8 0, .int .u8 0, .int .u8 0, .int .u8 0, .int .u8 0, .int .u8 0, .int .u8 0, .int .u8 0, .int .u8 0, .int .i64 0, .int .i64 0, .int .i64 0, .slice none 0 0, .int .i64 0, .int .i64 0, .int .i64 0, .slice none 0 0, .int .i64 0, .int .i64 0, .int .i64 0, .int .i64 0, .int .i64 0, .int .i64 0, .bool false]) 35 200 Try.underlying22 (by kernel_rfl) rfl (by decide) w.heap.size w (Lib.hid (BA.out.alloc BA.out.size _)) (by omega) (Lib.hid (HOr.out.alloc _)) rfl ⟨w5.heap.size, 0, none⟩ 1 1 rfl y.cells (sv_len y) (Lib.hid (news_new (heap_new _ _ _ rfl))) (sv_one y) (by omega) (by omega) (by have := BA.out.size; simp; omega) ?_; intro p2 cap2 w8 hc2 HO8 HB8 HK8)
      go_roundw
      case rel =>
        refine ⟨k + 1, L ++ [y], p2, cap2, by omega, by go_num, ?_, by simp, ⟨?_, ?_⟩, HB8.out⟩
        · have e1 : cons (L ++ [y]) = cons L ++ [y.s] := by simp [cons]
          rw [e1, HLk.out, HYs.out, List.take_add_one, List.getElem?_eq_getElem (by simpa [cons] using hlt)]
          simp [cons, HXx.out]
        · have := HO8.out
          rw [flat_append, List.length_append]
          simpa [flat] using this
        · intro z hz
          rcases List.mem_append.1 hz with h | h
          · exact SOk.kept ((HO.out.ok z h).alloc _) (HOr.out.alloc _) (by decide) (by decide) HK8.out
          · rw [List.mem_singleton] at h
            subst h
            exact SOk.kept (HY.out.alloc _) (HOr.out.alloc _) (by decide) (by decide) HK8.out
      case measure => simp [intOf]; omega
    · have hke : k = l.length := by omega
      subst hke
      have HL2 := Lib.hid (show cons L = cons l by rw [HLk.out]; exact List.take_of_length_le (by simp [cons]))
      have t1 : decide ((l.length : Int) < (l.length : Int)) = false := by simp
      go_wp2_with fail
      go_ret
      exact ⟨po, capo, L, HL2.out, rfl, HO, BA⟩

theorem sescopy_any (v : Value) (l : List Sv) (w : World) (h : Sess w v l) (hl : SmS (cons l)) :
    Calls Try.prog 31 #[v] w (RetTab w (cons l)) := by
  obtain ⟨p, cap, rfl, hcap⟩ := sess_shape h
  go_enter Try.func31, Try.ntmps31
  go_wp2_with fail
  refine (pieces_ses_any _ l w h hl).mono ?_
  rintro e w2 ⟨p2, cap2, L, hL, rfl, O2, B2⟩
  go_wp2_with fail
  go_ret
  exact ⟨p2, cap2, L, hL, rfl, O2, B2⟩
end Go.Proofs.Ytlmkkfigmoefdaa.K
