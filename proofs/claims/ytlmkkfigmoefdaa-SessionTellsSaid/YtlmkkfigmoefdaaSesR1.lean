/-
  CONTRACTS of nightjarref18: Copy, Of, Statuses, many.
-/
import Derived.Test.YtlmkkfigmoefdaaSes3
import Derived.Test.YtlmkkfigmoefdaaSes7
set_option linter.unusedVariables false
set_option linter.unusedSimpArgs false
namespace Go.Proofs.Ytlmkkfigmoefdaa.K
open Go Go.RowKit Nj

set_option maxRecDepth 100000 in
set_option maxHeartbeats 8000000 in
theorem rtcopy_any (v : Value) (l : List Sv) (w : World) (h : Sess w v l) (hl : SmS (cons l)) :
    Calls Try.prog 12 #[v] w (RetTab w (cons l)) := by
  obtain ⟨p, cap, rfl, hcap⟩ := sess_shape h
  have HS := Lib.hid h
  have hl0 : l.length ≤ 1000 := by have := hl.1; simpa [cons] using this
  have HL := Lib.hid (show ∀ x ∈ l, x.s.beats.length ≤ 1000 ∧ x.s.ch.send.fl.length ≤ 1000 from fun x hx => hl.2 x.s (by simp only [cons, List.mem_map]; exact ⟨x, hx, rfl⟩))
  have hm : l.length ≤ 9223372036854775807 := by omega
  clear h hl
  go_enter Try.func12, Try.ntmps12
  go_wp2_with fail
  go_loopw [3, 4] (fun ov i wr => ∃ (k : Nat) (L : List Sv) (po : Option Addr) (capo : Nat), k ≤ l.length ∧ i = .int .i64 k ∧ cons L = (cons l).take k ∧ ov = .slice po L.length capo ∧ OwnS 38 57 85 w.heap.size wr (.slice po L.length capo) L ∧ Below w.heap.size w wr) (fun _ i _ => l.length - (intOf i).toNat)
  case atStart => exact ⟨0, [], none, 0, by omega, rfl, by simp [cons], rfl, owns_nil _ _ _ _ _, Below.refl _ _⟩
  case round =>
    obtain ⟨k, L, po, capo, hk, rfl, hL, rfl, ho, hb⟩ := hrel
    have HLk := Lib.hid hL
    have HO := Lib.hid ho
    have BA := Lib.hid hb
    have hLl : L.length = k := by
      have := congrArg List.length hL
      simp [cons] at this; omega
    clear hL ho hb
    by_cases hlt : k < l.length
    · obtain ⟨b, o, rfl, _⟩ := HS.out.1.open (by omega)
      obtain ⟨x, hx⟩ : ∃ x, x = l[k] := ⟨_, rfl⟩
      have R0 := Lib.hid (ses_row (HS.out.1.keep (by decide) BA.out) k hlt x hx)
      have hxm : x ∈ l := by rw [hx]; exact List.getElem_mem hlt
      have HSx := Lib.hid (HS.out.2 x hxm)
      have HLx := Lib.hid (HL.out x hxm)
      have HXx := Lib.hid hx
      have t1 : (k : Int) < (l.length : Int) := by omega
      have t2 : (0 : Int) ≤ (k : Int) := by omega
      have HL1 := Lib.hid (show L.length ≤ 1000 by omega)
      clear hx hxm hLl
      go_wp2_with (refine ldl R0 rfl rfl rfl ?_)
      refine (rcopy_any x _ (HSx.out.keep BA.out) HLx.out.1 HLx.out.2).mono ?_
      rintro e w5 ⟨y, hy, rfl, HY, B5⟩
      have HYs := Lib.hid hy
      have hz5 : w.heap.size ≤ wr.heap.size := BA.out.size
      replace BA := Lib.hid (chain BA.out B5.out)
      replace HO := Lib.hid (HO.out.keep B5.out)
      replace HY := Lib.hid (HY.out.mono hz5)
      clear hy R0 B5 HSx
      have HOr := Lib.hid HO.out.row
      have ylen := sv_len y
      have hLs := HL1.out
      go_wp2_with (at_builtin; rw [build_ses]; rotate_left; rfl; refine wpList_app rfl (.tmp 11) (.tmp 17) 22 rfl w.heap.size 38 (.agg #[.int .i64 0, .int .i64 0, .int .i64 0, .int .i64 0, .int .u8 0, .int .u8 0, .int .u8 0, .int .u8 0, .int .u8 0, .int .u8 0, .int .u8 0, .int .u8 0, .int .u8 0, .int .u8 0, .int .u8 0, .int .u8 0, .int .u8 0, .int .u8 0, .int .u8 0, .int .u8 0, .int .i64 0, .int .i64 0, .int .i64 0, .slice none 0 0, .int .i64 0, .int .i64 0, .int .i64 0, .slice none 0 0, .int .i64 0, .int .i64 0, .int .i64 0, .int .i64 0, .int .i64 0, .int .i64 0, .bool false]) 35 200 Try.underlying22 (by kernel_rfl) rfl (by decide) w.heap.size w (Lib.hid (BA.out.alloc BA.out.size _)) (by omega) (Lib.hid (HOr.out.alloc _)) rfl ⟨w5.heap.size, 0, none⟩ 1 1 rfl y.cells (sv_len y) (Lib.hid (news_new (heap_new _ _ _ rfl))) (sv_one y) (by omega) (by omega) (by have := BA.out.size; simp; omega) ?_; intro p2 cap2 w8 hc2 HO8 HB8 HK8)
      go_roundw
      case rel =>
        refine ⟨k + 1, L ++ [y], p2, cap2, by omega, by go_num, ?_, by simp, ⟨?_, ?_⟩, HB8.out⟩
        · have e1 : cons (L ++ [y]) = cons L ++ [y.s] := by simp [cons]
          rw [e1, HLk.out, HYs.out, List.take_add_one, List.getElem?_eq_getElem (by simpa [cons] using hlt)]
          simp [cons, HXx.out]
        · have := HO8.out
          rw [flat_append, List.length_append]
          simpa [flat] using this
        · intro z hz
          rcases List.mem_append.1 hz with h | h
          · exact SOk.kept ((HO.out.ok z h).alloc _) (HOr.out.alloc _) (by decide) (by decide) HK8.out
          · rw [List.mem_singleton] at h
            subst h
            exact SOk.kept (HY.out.alloc _) (HOr.out.alloc _) (by decide) (by decide) HK8.out
      case measure => simp [intOf]; omega
    · have hke : k = l.length := by omega
      subst hke
      have HL2 := Lib.hid (show cons L = cons l by rw [HLk.out]; exact List.take_of_length_le (by simp [cons]))
      have t1 : decide ((l.length : Int) < (l.length : Int)) = false := by simp
      go_wp2_with fail
      go_ret
      exact ⟨po, capo, L, HL2.out, rfl, HO, BA⟩
end Go.Proofs.Ytlmkkfigmoefdaa.K
