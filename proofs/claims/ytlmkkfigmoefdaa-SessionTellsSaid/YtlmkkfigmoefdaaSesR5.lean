/-
  CONTRACT of nightjarref18.Close.
-/
import Derived.Test.YtlmkkfigmoefdaaSesR1
import Derived.Test.YtlmkkfigmoefdaaSes12
set_option linter.unusedVariables false
set_option linter.unusedSimpArgs false
namespace Go.Proofs.Ytlmkkfigmoefdaa.K
open Go Go.RowKit Nj

def sesCloseR (t : List Ses) (i : Int) : List Ses × Bool := (t.filter fun s => !decide (s.id = i), decide ((t.filter fun s => !decide (s.id = i)).length < t.length))

set_option maxRecDepth 100000 in
set_option maxHeartbeats 8000000 in
theorem rclose_any (v : Value) (l : List Sv) (i : Int) (w : World) (h : Sess w v l) (hl : SmS (cons l)) (t : List Ses) (c : Bool) (ho : sesCloseR (cons l) i = (t, c)) :
    Calls Try.prog 20 #[v, .int .i64 i] w (RetPut w t c) := by
  obtain ⟨p, cap, rfl, hcap⟩ := sess_shape h
  have HS := Lib.hid h
  have hl0 : l.length ≤ 1000 := by have := hl.1; simpa [cons] using this
  have HL := Lib.hid (show ∀ x ∈ l, x.s.beats.length ≤ 1000 ∧ x.s.ch.send.fl.length ≤ 1000 from fun x hx => hl.2 x.s (by simp only [cons, List.mem_map]; exact ⟨x, hx, rfl⟩))
  have hm : l.length ≤ 9223372036854775807 := by omega
  have HE := Lib.hid (show t = (cons l).filter (fun s => !decide (s.id = i)) ∧ c = decide (((cons l).filter (fun s => !decide (s.id = i))).length < l.length) by
    unfold sesCloseR at ho; cases ho; exact ⟨rfl, by rw [show (cons l).length = l.length by simp [cons]]⟩)
  have hcl := Lib.hid (show (cons l).length = l.length by simp [cons])
  clear h hl ho
  go_enter Try.func20, Try.ntmps20
  go_wp2_with fail
  go_loopw [6, 7] (fun ov iv wr => ∃ (k : Nat) (L : List Sv) (po : Option Addr) (capo : Nat), k ≤ l.length ∧ iv = .int .i64 k ∧ cons L = ((cons l).take k).filter (fun s => !decide (s.id = i)) ∧ ov = .slice po L.length capo ∧ OwnS 38 57 85 w.heap.size wr (.slice po L.length capo) L ∧ Below w.heap.size w wr) (fun _ iv _ => l.length - (intOf iv).toNat)
  case atStart => exact ⟨0, [], none, 0, by omega, rfl, by simp [cons], rfl, owns_nil _ _ _ _ _, Below.refl _ _⟩
  case round =>
    obtain ⟨k, L, po, capo, hk, rfl, hL, rfl, ho, hb⟩ := hrel
    have HLk := Lib.hid hL
    have HO := Lib.hid ho
    have BA := Lib.hid hb
    have hLl : L.length ≤ k := by
      have := congrArg List.length hL
      have h2 := List.length_filter_le (fun s : Ses => !decide (s.id = i)) ((cons l).take k)
      rw [List.length_take] at h2
      simp only [cons, List.length_map] at this h2
      omega
    clear hL ho hb
    by_cases hlt : k < l.length
    · obtain ⟨b, o, rfl, _⟩ := HS.out.1.open (by omega)
      obtain ⟨x, hx⟩ : ∃ x, x = l[k] := ⟨_, rfl⟩
      have R0 := Lib.hid (ses_row (HS.out.1.keep (by decide) BA.out) k hlt x hx)
      have k0 := f_id R0.out
      have hxm : x ∈ l := by rw [hx]; exact List.getElem_mem hlt
      have HSx := Lib.hid (HS.out.2 x hxm)
      have HLx := Lib.hid (HL.out x hxm)
      have hkc : k < (cons l).length := by rw [hcl.out]; exact hlt
      have HXc := Lib.hid (show (cons l)[k] = x.s by simp [cons, hx])
      have t1 : (k : Int) < (l.length : Int) := by omega
      have t2 : (0 : Int) ≤ (k : Int) := by omega
      have HL1 := Lib.hid (show L.length ≤ 1000 by omega)
      clear hx hxm hLl
      by_cases hi : x.s.id = i
      · have u1 : (x.s.id != i) = false := by simp [hi]
        have HN := Lib.hid (show cons L = ((cons l).take (k + 1)).filter (fun s => !decide (s.id = i)) by
          rw [filter_take_no hkc (by rw [HXc.out]; simp [hi])]; exact HLk.out)
        clear hi
        go_wp2_with fail
        go_roundw
        case rel => exact ⟨k + 1, L, po, capo, by omega, by go_num, HN.out, rfl, HO.out, BA.out⟩
        case measure => simp [intOf]; omega
      · have u1 : (x.s.id != i) = true := by simp [hi]
        have HN := Lib.hid (show cons L ++ [x.s] = ((cons l).take (k + 1)).filter (fun s => !decide (s.id = i)) by
          rw [filter_take_yes hkc (by rw [HXc.out]; simp [hi]), HLk.out, HXc.out])
        clear hi
        go_wp2_with (refine ldl R0 rfl rfl rfl ?_)
        refine (rcopy_any x _ (HSx.out.keep BA.out) HLx.out.1 HLx.out.2).mono ?_
        rintro e w5 ⟨y, hy, rfl, HY, B5⟩
        have HYs := Lib.hid hy
        have hz5 : w.heap.size ≤ wr.heap.size := BA.out.size
        replace BA := Lib.hid (chain BA.out B5.out)
        replace HO := Lib.hid (HO.out.keep B5.out)
        replace HY := Lib.hid (HY.out.mono hz5)
        clear hy R0 B5 HSx k0
        have HOr := Lib.hid HO.out.row
        have ylen := sv_len y
        have hLs := HL1.out
        go_wp2_with (at_builtin; rw [build_ses]; rotate_left; rfl; refine wpList_app rfl (.tmp 21) (.tmp 27) 22 rfl w.heap.size 38 (.agg #[.int .i64 0, .int .i64 0, .int .i64 0, .int .i64 0, .int .u8 0, .int .u8 0, .int .u8 0, .int .u8 0, .int .u8 0, .int .u8 0, .int .u8 0, .int .u8 0, .int .u8 0, .int .u8 0, .int .u8 0, .int .u8 0, .int .u8 0, .int .u8 0, .int .u8 0, .int .u8 0, .int .i64 0, .int .i64 0, .int .i64 0, .slice none 0 0, .int .i64 0, .int .i64 0, .int .i64 0, .slice none 0 0, .int .i64 0, .int .i64 0, .int .i64 0, .int .i64 0, .int .i64 0, .int .i64 0, .bool false]) 35 200 Try.underlying22 (by kernel_rfl) rfl (by decide) w.heap.size w (Lib.hid (BA.out.alloc BA.out.size _)) (by omega) (Lib.hid (HOr.out.alloc _)) rfl ⟨w5.heap.size, 0, none⟩ 1 1 rfl y.cells (sv_len y) (Lib.hid (news_new (heap_new _ _ _ rfl))) (sv_one y) (by omega) (by omega) (by have := BA.out.size; simp; omega) ?_; intro p2 cap2 w8 hc2 HO8 HB8 HK8)
        go_roundw
        case rel =>
          refine ⟨k + 1, L ++ [y], p2, cap2, by omega, by go_num, ?_, by simp, ⟨?_, ?_⟩, HB8.out⟩
          · rw [← HN.out]; simp [cons, HYs.out]
          · have := HO8.out
            rw [flat_append, List.length_append]
            simpa [flat] using this
          · intro z hz
            rcases List.mem_append.1 hz with h | h
            · exact SOk.kept ((HO.out.ok z h).alloc _) (HOr.out.alloc _) (by decide) (by decide) HK8.out
            · rw [List.mem_singleton] at h
              subst h
              exact SOk.kept (HY.out.alloc _) (HOr.out.alloc _) (by decide) (by decide) HK8.out
        case measure => simp [intOf]; omega
    · have hke : k = l.length := by omega
      subst hke
      have HL2 := Lib.hid (show cons L = t by rw [HLk.out, HE.out.1, List.take_of_length_le (by rw [hcl.out]; exact Nat.le_refl _)])
      have HC2 := Lib.hid (show decide (L.length < l.length) = c by
        have e : L.length = t.length := by rw [← HL2.out]; simp [cons]
        rw [HE.out.2, ← HE.out.1, e])
      have t1 : decide ((l.length : Int) < (l.length : Int)) = false := by simp
      go_wp2_with fail
      rw [HC2.out]
      go_ret2
      exact ⟨po, capo, L, HL2.out, rfl, HO, BA⟩
end Go.Proofs.Ytlmkkfigmoefdaa.K
