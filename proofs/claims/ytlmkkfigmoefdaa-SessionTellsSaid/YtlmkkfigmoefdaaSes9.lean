/-
  CONTRACTS of package session: EqualFunc over sessions, Same, Find.
-/
import Derived.Test.YtlmkkfigmoefdaaSes8
import Derived.Test.YtlmkkfigmoefdaaSes7
set_option linter.unusedVariables false
set_option linter.unusedSimpArgs false
namespace Go.Proofs.Ytlmkkfigmoefdaa.K
open Go Go.RowKit Nj

set_option maxRecDepth 100000 in
set_option maxHeartbeats 8000000 in
theorem sequalf_any (v v' : Value) (l m : List Sv) (w : World) (h : Sess w v l) (h' : Sess w v' m) :
    Calls Try.prog 50 #[v, v', .func (.func 51) #[] #[]] w fun e w' => e = .returned (.bool (decide (cons l = cons m))) ∧ Hid (Below w.heap.size w w') := by
  have HS := Lib.hid h
  have HS' := Lib.hid h'
  have hm : l.length ≤ 9223372036854775807 := h.1.1
  have hm' : m.length ≤ 9223372036854775807 := h'.1.1
  obtain ⟨p, cap, rfl, hcap⟩ := sess_shape h
  obtain ⟨p', cap', rfl, hcap'⟩ := sess_shape h'
  clear h h'
  by_cases hlen : l.length = m.length
  · obtain ⟨n, hn⟩ : ∃ n, n = l.length := ⟨_, rfl⟩
    have hn' : n = m.length := by omega
    rw [← hn] at hm hcap
    rw [← hn'] at hm' hcap'
    have HN := Lib.hid hn
    have HN' := Lib.hid hn'
    rw [← hn, ← hn']
    rw [← hn] at HS
    rw [← hn'] at HS'
    clear hlen hn hn' hm'
    go_enter Try.func50, Try.ntmps50
    go_wp2_with fail
    go_loopw [17] (fun i wr => ∃ k : Nat, k ≤ n ∧ i = .int .i64 k ∧ (cons l).take k = (cons m).take k ∧ Below w.heap.size w wr) (fun i _ => n - (intOf i).toNat)
    case atStart => exact ⟨0, by omega, rfl, by simp, Below.refl _ _⟩
    case round =>
      obtain ⟨k, hk, rfl, hall, hwb⟩ := hrel
      have HA := Lib.hid hall
      have BA := Lib.hid hwb
      clear hall hwb
      by_cases hlt : k < n
      · have hltl : k < l.length := by rw [← HN.out]; exact hlt
        have hltm : k < m.length := by rw [← HN'.out]; exact hlt
        obtain ⟨b, o, rfl, _⟩ := HS.out.1.open (by omega)
        obtain ⟨b', o', rfl, _⟩ := HS'.out.1.open (by omega)
        obtain ⟨x, hx⟩ : ∃ x, x = l[k] := ⟨_, rfl⟩
        obtain ⟨y, hy⟩ : ∃ y, y = m[k] := ⟨_, rfl⟩
        have R0 := Lib.hid (ses_row (HS.out.1.keep (by decide) BA.out) k hltl x hx)
        have R1 := Lib.hid (ses_row (HS'.out.1.keep (by decide) BA.out) k hltm y hy)
        have HSx := Lib.hid (HS.out.2 x (by rw [hx]; exact List.getElem_mem hltl))
        have HSy := Lib.hid (HS'.out.2 y (by rw [hy]; exact List.getElem_mem hltm))
        have HT := Lib.hid (show x.s = y.s → (cons l).take (k + 1) = (cons m).take (k + 1) by
          intro e
          rw [List.take_add_one, List.take_add_one, HA.out, List.getElem?_eq_getElem (by simpa [cons] using hltl), List.getElem?_eq_getElem (by simpa [cons] using hltm)]
          simp [cons, ← hx, ← hy, e])
        have HF := Lib.hid (show x.s ≠ y.s → decide (cons l = cons m) = false by
          intro hne
          simp only [decide_eq_false_iff_not]
          intro e
          apply hne
          have e2 : (cons l)[k]? = (cons m)[k]? := by rw [e]
          rw [List.getElem?_eq_getElem (by simpa [cons] using hltl), List.getElem?_eq_getElem (by simpa [cons] using hltm)] at e2
          simpa [cons, ← hx, ← hy] using e2)
        have t1 : (k : Int) < (n : Int) := by omega
        have t2 : (0 : Int) ≤ (k : Int) := by omega
        clear hx hy
        go_wp2_with (first
          | (refine ldl R0 rfl rfl rfl ?_)
          | (refine stl (Lib.hid (heap_new wr (.cells #[.int .i64 0, .int .i64 0, .int .i64 0, .int .i64 0, .int .u8 0, .int .u8 0, .int .u8 0, .int .u8 0, .int .u8 0, .int .u8 0, .int .u8 0, .int .u8 0, .int .u8 0, .int .u8 0, .int .u8 0, .int .u8 0, .int .u8 0, .int .u8 0, .int .u8 0, .int .u8 0, .int .i64 0, .int .i64 0, .int .i64 0, .slice none 0 0, .int .i64 0, .int .i64 0, .int .i64 0, .slice none 0 0, .int .i64 0, .int .i64 0, .int .i64 0, .int .i64 0, .int .i64 0, .int .i64 0, .bool false] 38) wr.heap.size rfl)) rfl rfl rfl rfl rfl ?_; intro w3 A8 M3; have B3 := Lib.hid (Mod.below (B := wr.heap.size) M3.out ((Below.refl wr.heap.size wr).alloc (Nat.le_refl _) _) (by simp) (fun k hk => by omega)); replace BA := Lib.hid (chain BA.out B3.out); have R1k := Lib.hid (rangeAt_keep R1.out B3.out))
          | (refine ldl R1k rfl rfl rfl ?_)
          | (refine stl (Lib.hid (heap_new w3 (.cells #[.int .i64 0, .int .i64 0, .int .i64 0, .int .i64 0, .int .u8 0, .int .u8 0, .int .u8 0, .int .u8 0, .int .u8 0, .int .u8 0, .int .u8 0, .int .u8 0, .int .u8 0, .int .u8 0, .int .u8 0, .int .u8 0, .int .u8 0, .int .u8 0, .int .u8 0, .int .u8 0, .int .i64 0, .int .i64 0, .int .i64 0, .slice none 0 0, .int .i64 0, .int .i64 0, .int .i64 0, .slice none 0 0, .int .i64 0, .int .i64 0, .int .i64 0, .int .i64 0, .int .i64 0, .int .i64 0, .bool false] 38) w3.heap.size rfl)) rfl rfl rfl rfl rfl ?_; intro w4 A9 M4; have B4 := Lib.hid (Mod.below (B := w3.heap.size) M4.out ((Below.refl w3.heap.size w3).alloc (Nat.le_refl _) _) (by simp) (fun k hk => by omega)); replace BA := Lib.hid (chain BA.out B4.out); have R8 := Lib.hid (rangeAt_keep (rangeAt_block A8.out) B4.out); have R9 := Lib.hid (rangeAt_block A9.out))
          | (refine ldl R8 rfl rfl rfl ?_)
          | (refine ldl R9 rfl rfl rfl ?_))
        refine (ssame1_any x y _ (HSx.out.keep BA.out) (HSy.out.keep BA.out)).mono ?_
        rintro e w5 ⟨rfl, B5⟩
        replace BA := Lib.hid (chain BA.out B5.out)
        clear R0 R1 R1k R8 R9 A8 A9 M3 M4 B3 B4 B5
        by_cases hxy : x.s = y.s
        · have hd := dec_t hxy
          have HT2 := Lib.hid (HT.out hxy)
          clear hxy
          rw [hd]
          go_wp2_with fail
          go_roundw
          case rel => exact ⟨k + 1, by omega, by go_num, HT2.out, BA.out⟩
          case measure => simp [intOf]; omega
        · have hd := dec_f hxy
          have HF2 := Lib.hid (HF.out hxy)
          clear hxy
          rw [hd]
          go_wp2_with fail
          go_ret
          exact ⟨ret_bool HF2.out.symm, BA⟩
      · have hke : k = n := by omega
        subst hke
        have HF := Lib.hid (show decide (cons l = cons m) = true by
          have := HA.out
          rw [List.take_of_length_le (by simp [cons, ← HN.out]), List.take_of_length_le (by simp [cons, ← HN'.out])] at this
          simpa using this)
        have t1 : decide ((k : Int) < (k : Int)) = false := by simp
        go_wp2_with fail
        go_ret
        exact ⟨ret_bool HF.out.symm, BA⟩
  · have HF := Lib.hid (show decide (cons l = cons m) = false by
      simp only [decide_eq_false_iff_not]
      intro e
      exact hlen (by simpa [cons] using congrArg List.length e))
    have t1 : ((l.length : Int) != (m.length : Int)) = true := by simp; omega
    go_enter Try.func50, Try.ntmps50
    go_wp2_with fail
    go_ret
    exact ⟨ret_bool HF.out.symm, Lib.hid (Below.refl _ _)⟩

theorem sesame_any (v v' : Value) (l m : List Sv) (b : Bool) (w : World) (h : Sess w v l) (h' : Sess w v' m) (hb : decide (cons l = cons m) = b) :
    Calls Try.prog 30 #[v, v'] w fun e w' => e = .returned (.bool b) ∧ Hid (Below w.heap.size w w') := by
  subst hb
  have HC := Lib.hid (sequalf_any v v' l m w h h')
  obtain ⟨p, cap, rfl, hcap⟩ := sess_shape h
  obtain ⟨p', cap', rfl, hcap'⟩ := sess_shape h'
  go_enter Try.func30, Try.ntmps30
  go_wp2_with fail
  refine HC.out.mono ?_
  rintro e w2 ⟨rfl, B2⟩
  go_wp2_with fail
  go_ret
  exact ⟨rfl, B2⟩

/-- the session of that number, in memory of the call's own, or the zero one -/
def ses0 : Ses := ⟨0, 0, 0, 0, ⟨0, 0, 0, 0, 0, 0, 0, 0, 0, 0, 0, 0, 0, 0, 0, 0⟩, 0, 0, 0, [], 0, 0, ⟨⟨0, [], 0, 0⟩, ⟨0, 0, 0, 0, false⟩⟩⟩
def sesFind (t : List Ses) (i : Int) : Ses × Bool := match t.find? (fun s => decide (s.id = i)) with
  | some s => (s, true)
  | none => (ses0, false)
def RetFind (w : World) (s : Ses) (ok : Bool) (e : Ending) (w' : World) : Prop := ∃ y : Sv, y.s = s ∧ e = .returned (.tuple #[.agg y.cells.toArray, .bool ok]) ∧ Hid (SOk 57 85 w.heap.size w' y) ∧ Hid (Below w.heap.size w w')
def sv0 : Sv := ⟨ses0, none, 0, none, 0⟩
theorem sok0 (Eb Ef : TypeId) (B : Nat) (w : World) : SOk Eb Ef B w sv0 := ⟨own_nil Eb 2 B w, own_nil Ef 7 B w, by decide⟩

set_option maxRecDepth 100000 in
set_option maxHeartbeats 8000000 in
theorem sfind_any (v : Value) (l : List Sv) (i : Int) (w : World) (h : Sess w v l) (hl : SmS (cons l)) (s : Ses) (ok : Bool) (hf : sesFind (cons l) i = (s, ok)) :
    Calls Try.prog 21 #[v, .int .i64 i] w (RetFind w s ok) := by
  have HS := Lib.hid h
  have HL := Lib.hid (show ∀ x ∈ l, x.s.beats.length ≤ 1000 ∧ x.s.ch.send.fl.length ≤ 1000 from fun x hx => hl.2 x.s (by simp only [cons, List.mem_map]; exact ⟨x, hx, rfl⟩))
  have HFd := Lib.hid hf
  have hm : l.length ≤ 9223372036854775807 := h.1.1
  obtain ⟨p, cap, rfl, hcap⟩ := sess_shape h
  clear h hl hf
  go_enter Try.func21, Try.ntmps21
  go_upto_region 1 with fail
  refine gen_wp (fun w1 => Hid (Below w.heap.size w w1) ∧ Hid (w1.heap[w.heap.size]? = some (.cells #[.int .i64 0, .int .i64 0, .int .i64 0, .int .i64 0, .int .u8 0, .int .u8 0, .int .u8 0, .int .u8 0, .int .u8 0, .int .u8 0, .int .u8 0, .int .u8 0, .int .u8 0, .int .u8 0, .int .u8 0, .int .u8 0, .int .u8 0, .int .u8 0, .int .u8 0, .int .u8 0, .int .i64 0, .int .i64 0, .int .i64 0, .slice none 0 0, .int .i64 0, .int .i64 0, .int .i64 0, .slice none 0 0, .int .i64 0, .int .i64 0, .int .i64 0, .int .i64 0, .int .i64 0, .int .i64 0, .bool false] 38)) ∧ True) ⟨Lib.hid (by (repeat (first | (with_reducible exact Below.refl _ _) | (with_reducible refine bel_set (by first | omega | (simp; done) | (simp; omega)) ?_) | (with_reducible refine bel_alloc (by first | omega | (simp; done) | (simp; omega)) ?_) | (with_reducible refine bel_drew ?_) | (with_reducible refine bel_drewN ?_ _))); first | done | fail "left"), Lib.hid (by first | (simp [World.setCell, Array.getElem?_modify]; done) | (simp [World.setCell, Array.getElem?_modify]; omega) | ((repeat (first | (with_reducible exact heap_new _ _ _ (by first | rfl | (simp; done))) | (with_reducible refine keepa ?_ _) | (simp [World.setCell, Array.getElem?_modify]; done))); done)), trivial⟩ ?_
  rintro w1 ⟨BA, A1, -⟩
  have c_A1 := cell_of_block A1.out
  have f_A1 := frozen_of_block A1.out
  have hs1 := block_lt A1.out
  go_wp2_with fail
  refine (splace_any _ l i _ (HS.out.keep BA.out)).mono ?_
  rintro e w2 ⟨hpl, B2⟩
  replace A1 := Lib.hid (keepb A1.out B2.out)
  replace BA := Lib.hid (chain BA.out B2.out)
  clear B2 hs1 c_A1 f_A1
  have hs1 := block_lt A1.out
  rcases hpl with ⟨k, hk, hki, hno, rfl⟩ | ⟨hno, rfl⟩
  · obtain ⟨b, o, rfl, _⟩ := HS.out.1.open (by omega)
    obtain ⟨x, hx⟩ : ∃ x, x = l[k] := ⟨_, rfl⟩
    have hxm : x ∈ l := by rw [hx]; exact List.getElem_mem hk
    have R0 := Lib.hid (ses_row (HS.out.1.keep (by decide) BA.out) k hk x hx)
    have HSx := Lib.hid (HS.out.2 x hxm)
    have HLx := Lib.hid (HL.out x hxm)
    have HE := Lib.hid (show x.s = s ∧ ok = true by
      have e : (cons l).find? (fun s => decide (s.id = i)) = some x.s := by
        rw [List.find?_eq_some_iff_getElem]
        refine ⟨by rw [hx]; simpa using hki, k, by simpa [cons] using hk, by simp [cons, hx], fun j hj => ?_⟩
        have := hno j (by omega) hj
        simpa [cons] using this
      have h2 := HFd.out
      unfold sesFind at h2
      rw [e] at h2
      simpa using h2)
    have t1 : (k : Int) < (l.length : Int) := by omega
    have t2 : (0 : Int) ≤ (k : Int) := by omega
    clear hx hxm hki hno
    obtain ⟨he1, rfl⟩ := HE.out
    go_wp2_with (first | (refine ldl R0 rfl rfl rfl ?_) | (go_at_call 40; refine (sesown_any x _ (HSx.out.keep BA.out) HLx.out.1 HLx.out.2).mono ?_; rintro e w5 ⟨y, hy, rfl, HY, B5⟩; have A1e := Lib.hid (keepb A1.out B5.out)) | (refine stl A1e rfl rfl rfl rfl rfl ?_; intro w6 A2' M6))
    have BX := Lib.hid (chain BA.out B5.out)
    have hs2 : w.heap.size < w2.heap.size := hs1
    have BX2 := Lib.hid (Mod.below M6.out BX.out (by have := B5.out.size; omega) (fun k hk => by omega))
    refine bodyPost_ret (v := .tuple #[.agg y.cells.toArray, .bool true]) (by rw [res_ses2 rfl rfl (rangeAt_block A2'.out)]; rfl) rfl ⟨y, by rw [hy, he1], rfl, Lib.hid ?_, BX2⟩
    exact SOk.mono (SOk.mod HY.out M6.out (fun k hk => by have := HY.out.bt.block k hk; omega) (fun k hk => by have := HY.out.fl.block k hk; omega)) (by omega)
  · have HE := Lib.hid (show s = ses0 ∧ ok = false by
      have e : (cons l).find? (fun s => decide (s.id = i)) = none := by
        rw [List.find?_eq_none]
        intro s hs
        simp only [cons, List.mem_map] at hs
        obtain ⟨x, hx, rfl⟩ := hs
        obtain ⟨j, hj, rfl⟩ := List.getElem_of_mem hx
        simpa using hno j hj
      have h2 := HFd.out
      unfold sesFind at h2
      rw [e] at h2
      simp at h2
      exact ⟨h2.1.symm, h2.2⟩)
    clear hno
    obtain ⟨rfl, rfl⟩ := HE.out
    go_wp2_with (refine stl (x := sv0) A1 rfl rfl rfl rfl rfl ?_; intro w6 A2' M6)
    have BX2 := Lib.hid (Mod.below M6.out BA.out (by omega) (fun k hk => by omega))
    refine bodyPost_ret (v := .tuple #[.agg sv0.cells.toArray, .bool false]) (by rw [res_ses2 rfl rfl (rangeAt_block A2'.out)]; rfl) rfl ⟨sv0, rfl, rfl, Lib.hid (sok0 _ _ _ _), BX2⟩
end Go.Proofs.Ytlmkkfigmoefdaa.K
