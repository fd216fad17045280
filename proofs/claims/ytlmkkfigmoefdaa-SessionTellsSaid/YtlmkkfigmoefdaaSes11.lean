/-
  CONTRACTS of package session: Open, Put, Close.
-/
import Derived.Test.YtlmkkfigmoefdaaSes10
import Derived.Test.YtlmkkfigmoefdaaSes4
set_option linter.unusedVariables false
set_option linter.unusedSimpArgs false
namespace Nj
open Go
/-- does the last one of a table stand at that number, or behind it? -/
def sesLate (t : List Ses) (s : Ses) : Bool := match t.getLast? with
  | some x => decide (s.id ≤ x.id)
  | none => false
def sesOpen (t : List Ses) (s : Ses) : List Ses × Int :=
  if (!sesFits s || sesLate t s) = true then (t, 1) else if (decide (32 ≤ t.length) || decide (4 ≤ (sesOf t s.user).length)) = true then (t, 7) else (t ++ [s], 0)
theorem fits_small {s : Ses} (h : sesFits s = true) : s.beats.length ≤ 8 ∧ s.ch.send.fl.length ≤ 8 := by
  unfold sesFits at h
  simp only [Bool.and_eq_true] at h
  obtain ⟨_, _, _, hb, hc⟩ := h
  refine ⟨((btRight_iff _).1 hb).2.1, ?_⟩
  unfold chRight at hc
  simp only [Bool.and_eq_true] at hc
  have := hc.1
  simp only [sdRight, sdEnds, Bool.and_eq_true, decide_eq_true_eq] at this
  exact this.2.2.2.2.2.2.2
end Nj
namespace Go.Proofs.Ytlmkkfigmoefdaa.K
open Go Go.RowKit Nj

def RetOpen (w : World) (t : List Ses) (c : Int) (e : Ending) (w' : World) : Prop := ∃ (p : Option Addr) (cap : Nat) (L : List Sv), cons L = t ∧ e = .returned (.tuple #[.slice p L.length cap, .int .i64 c]) ∧ Hid (OwnS 38 57 85 w.heap.size w' (.slice p L.length cap) L) ∧ Hid (Below w.heap.size w w')

set_option maxRecDepth 100000 in
set_option maxHeartbeats 8000000 in
theorem sesopen_any (v : Value) (l : List Sv) (x : Sv) (w : World) (h : Sess w v l) (hl : SmS (cons l)) (hx : Sok w x) (t : List Ses) (c : Int) (ho : sesOpen (cons l) x.s = (t, c)) :
    Calls Try.prog 15 #[v, .agg x.cells.toArray] w (RetOpen w t c) := by
  have HS := Lib.hid h
  have HSx := Lib.hid hx
  have HOp := Lib.hid ho
  have HSm := Lib.hid hl
  have hl0 : l.length ≤ 1000 := by have := hl.1; simpa [cons] using this
  obtain ⟨p, cap, rfl, hcap⟩ := sess_shape h
  clear h hx ho hl
  go_enter Try.func15, Try.ntmps15
  go_upto_region 1 with fail
  refine gen_wp (fun w1 => Hid (Below w.heap.size w w1) ∧ Hid (w1.heap[w.heap.size]? = some (.cells x.cells.toArray 38)) ∧ True) ⟨Lib.hid (by (repeat (first | (with_reducible exact Below.refl _ _) | (with_reducible refine bel_set (by first | omega | (simp; done) | (simp; omega)) ?_) | (with_reducible refine bel_alloc (by first | omega | (simp; done) | (simp; omega)) ?_) | (with_reducible refine bel_drew ?_) | (with_reducible refine bel_drewN ?_ _))); first | done | fail "left"), Lib.hid (heap_new _ _ _ rfl), trivial⟩ ?_
  rintro w1 ⟨BA, A1, -⟩
  have hs1 := block_lt A1.out
  go_wp2_with fail
  refine (sescopy_any _ l _ (HS.out.keep BA.out) HSm.out).mono ?_
  rintro e w2 ⟨p2, cap2, L, hL, rfl, HO, B2⟩
  have HL := Lib.hid hL
  have HLl := Lib.hid (show L.length = l.length by simpa [cons] using congrArg List.length hL)
  replace A1 := Lib.hid (keepb A1.out B2.out)
  replace BA := Lib.hid (chain BA.out B2.out)
  have hs2 : w.heap.size < w1.heap.size := hs1
  replace HO := Lib.hid (HO.out.mono (Nat.le_of_lt hs2))
  clear B2 hL hs1 hs2
  have R1 := Lib.hid (rangeAt_block A1.out)
  obtain ⟨b, hb⟩ : ∃ b, sesFits x.s = b := ⟨_, rfl⟩
  have HFt := Lib.hid hb
  have HC := Lib.hid (fun W (h : Sok W x) => sfits_any x W h)
  rw [hb] at HC
  clear hb
  go_wp2_with (refine ldl R1 rfl rfl rfl ?_)
  refine (HC.out _ (HSx.out.keep BA.out)).mono ?_
  rintro e w3 ⟨rfl, B3⟩
  replace A1 := Lib.hid (keepb A1.out B3.out)
  replace BA := Lib.hid (chain BA.out B3.out)
  replace HO := Lib.hid (HO.out.keep B3.out)
  clear B3 R1 HC
  cases b with
  | false =>
    have HE := Lib.hid (show t = cons l ∧ c = 1 by
      have := HOp.out; unfold sesOpen at this; rw [HFt.out] at this; simp at this; exact ⟨this.1.symm, this.2.symm⟩)
    obtain ⟨rfl, rfl⟩ := HE.out
    go_wp2_with fail
    go_ret2
    exact ⟨p2, cap2, L, HL.out, rfl, HO, BA⟩
  | true =>
    have hfs := fits_small HFt.out
    have R1 := Lib.hid (rangeAt_block A1.out)
    obtain ⟨lt, hlt⟩ : ∃ b, sesLate (cons l) x.s = b := ⟨_, rfl⟩
    have HLt := Lib.hid hlt
    go_upto_region 3 with fail
    go_cut [9] (fun s9 wx => s9 = .bool lt ∧ ∃ d, wx = w3.drewN d)
    case first =>
      have g0 := g_id R1.out
      by_cases h0 : l.length = 0
      · have hE : lt = false := by
          rw [← hlt, List.length_eq_zero_iff.1 h0]; rfl
        subst hE
        have t1 : decide (0 < l.length) = false := by simp [h0]
        clear hlt
        go_quiet (fail)
        go_wp2_with fail
        go_meet
        case rel => exact ⟨rfl, _, rfl⟩
      · obtain ⟨b, o, rfl, _⟩ := HS.out.1.open (by omega)
        obtain ⟨m, hm⟩ : ∃ m, l.length = m + 1 := ⟨l.length - 1, by omega⟩
        have hml : m < l.length := by omega
        obtain ⟨y, hy⟩ : ∃ y, y = l[m] := ⟨_, rfl⟩
        have k0 := f_id (ses_row (HS.out.1.keep (by decide) BA.out) m hml y hy)
        have hE : lt = decide (x.s.id ≤ y.s.id) := by
          rw [← hlt]
          unfold sesLate
          rw [List.getLast?_eq_getElem?, show (cons l).length - 1 = m by simp [cons, hm], List.getElem?_eq_getElem (by simpa [cons] using hml)]
          simp [cons, hy]
        have t1 := dec_t (show 0 < l.length by omega)
        have hwr : IntKind.i64.wrap ((l.length : Int) - 1) = (l.length : Int) - 1 := by rw [IntKind.wrap_i64]; omega
        have hp0 : (0 : Int) ≤ (l.length : Int) - 1 := by omega
        have hp1 : (l.length : Int) - 1 < (l.length : Int) := by omega
        have hp2 : ((l.length : Int) - 1).toNat = m := by omega
        have HE := Lib.hid hE
        clear hm hE hy hlt
        go_quiet (fail)
        go_wp2_with fail
        go_meet
        case rel => exact ⟨by rw [HE.out], _, rfl⟩
    case rest =>
      obtain ⟨rfl, d, rfl⟩ := hcut
      clear hlt
      obtain ⟨w4, hw4⟩ : ∃ w4, w4 = w3.drewN d := ⟨_, rfl⟩
      have B4 := Lib.hid (show Below w3.heap.size w3 w4 by rw [hw4]; exact bel_drewN (Below.refl _ _) d)
      rw [← hw4]
      clear hw4
      replace A1 := Lib.hid (keepb A1.out B4.out)
      replace BA := Lib.hid (chain BA.out B4.out)
      replace HO := Lib.hid (HO.out.keep B4.out)
      replace R1 := Lib.hid (rangeAt_block A1.out)
      have g1 := g_user R1.out
      clear B4
      cases lt with
      | true =>
        have HE := Lib.hid (show t = cons l ∧ c = 1 by
          have := HOp.out; unfold sesOpen at this; rw [HFt.out, HLt.out] at this; simp at this; exact ⟨this.1.symm, this.2.symm⟩)
        obtain ⟨rfl, rfl⟩ := HE.out
        go_wp2_with fail
        go_ret2
        exact ⟨p2, cap2, L, HL.out, rfl, HO, BA⟩
      | false =>
        obtain ⟨U, hU⟩ : ∃ U, sesOf (cons l) x.s.user = U := ⟨_, rfl⟩
        have HU := Lib.hid hU
        have hcl : (cons l).length = l.length := by simp [cons]
        by_cases hfull : 32 ≤ l.length ∨ 4 ≤ U.length
        · have HE := Lib.hid (show t = cons l ∧ c = 7 by
            have := HOp.out; unfold sesOpen at this
            rw [HFt.out, HLt.out, hU, hcl, if_neg (by simp), if_pos (by simpa using hfull)] at this
            cases this; exact ⟨rfl, rfl⟩)
          have HFl := Lib.hid hfull
          clear hfull hU hcl
          obtain ⟨rfl, rfl⟩ := HE.out
          by_cases h32 : 32 ≤ l.length
          · have t1 : (32 : Int) ≤ (l.length : Int) := by omega
            go_wp2_with fail
            go_ret2
            exact ⟨p2, cap2, L, HL.out, rfl, HO, BA⟩
          · have t1 : ¬ (32 : Int) ≤ (l.length : Int) := by omega
            have t2 : (4 : Int) ≤ (U.length : Int) := by have := HFl.out; omega
            go_wp2_with fail
            refine (sesof_any _ l x.s.user _ (HS.out.keep BA.out) hl0 U HU.out).mono ?_
            rintro e w5 ⟨p5, cap5, rfl, -, B5⟩
            replace BA := Lib.hid (chain BA.out B5.out)
            replace HO := Lib.hid (HO.out.keep B5.out)
            go_wp2_with fail
            go_ret2
            exact ⟨p2, cap2, L, HL.out, rfl, HO, BA⟩
        · have HE := Lib.hid (show t = cons l ++ [x.s] ∧ c = 0 by
            have := HOp.out; unfold sesOpen at this
            rw [HFt.out, HLt.out, hU, hcl, if_neg (by simp), if_neg (by simpa using hfull)] at this
            cases this; exact ⟨rfl, rfl⟩)
          obtain ⟨hf1, hf2⟩ : l.length < 32 ∧ U.length < 4 := by omega
          clear hfull hU hcl
          have t1 : ¬ (32 : Int) ≤ (l.length : Int) := by omega
          have t2 : ¬ (4 : Int) ≤ (U.length : Int) := by omega
          go_wp2_with fail
          refine (sesof_any _ l x.s.user _ (HS.out.keep BA.out) hl0 U HU.out).mono ?_
          rintro e w5 ⟨p5, cap5, rfl, -, B5⟩
          replace A1 := Lib.hid (keepb A1.out B5.out)
          replace BA := Lib.hid (chain BA.out B5.out)
          replace HO := Lib.hid (HO.out.keep B5.out)
          have R5 := Lib.hid (rangeAt_block A1.out)
          go_wp2_with (refine ldl R5 rfl rfl rfl ?_)
          refine (sesown_any x _ (HSx.out.keep BA.out) (by omega) (by omega)).mono ?_
          rintro e w6 ⟨y, hy, rfl, HY, B6⟩
          have HYs := Lib.hid hy
          have hz5 : w.heap.size ≤ w5.heap.size := BA.out.size
          replace BA := Lib.hid (chain BA.out B6.out)
          replace HO := Lib.hid (HO.out.keep B6.out)
          replace HY := Lib.hid (HY.out.mono hz5)
          clear hy R1 R5 A1 B5 B6 g1
          have HOr := Lib.hid HO.out.row
          have ylen := sv_len y
          have hLs : L.length ≤ 1000 := by rw [HLl.out]; exact hl0
          go_wp2_with (at_builtin; rw [build_ses]; rotate_left; rfl; refine wpList_app rfl (.tmp 40) (.tmp 43) 22 rfl w.heap.size 38 (.agg #[.int .i64 0, .int .i64 0, .int .i64 0, .int .i64 0, .int .u8 0, .int .u8 0, .int .u8 0, .int .u8 0, .int .u8 0, .int .u8 0, .int .u8 0, .int .u8 0, .int .u8 0, .int .u8 0, .int .u8 0, .int .u8 0, .int .u8 0, .int .u8 0, .int .u8 0, .int .u8 0, .int .i64 0, .int .i64 0, .int .i64 0, .slice none 0 0, .int .i64 0, .int .i64 0, .int .i64 0, .slice none 0 0, .int .i64 0, .int .i64 0, .int .i64 0, .int .i64 0, .int .i64 0, .int .i64 0, .bool false]) 35 200 Try.underlying22 (by kernel_rfl) rfl (by decide) w.heap.size w (Lib.hid (BA.out.alloc BA.out.size _)) (by omega) (Lib.hid (HOr.out.alloc _)) rfl ⟨w6.heap.size, 0, none⟩ 1 1 rfl y.cells (sv_len y) (Lib.hid (news_new (heap_new _ _ _ rfl))) (sv_one y) (by omega) (by omega) (by have := BA.out.size; simp; omega) ?_; intro p9 cap9 w8 hc2 HO8 HB8 HK8)
          obtain ⟨rfl, rfl⟩ := HE.out
          go_ret2
          refine ⟨p9, cap9, L ++ [y], ?_, by simp, Lib.hid ⟨?_, ?_⟩, HB8⟩
          · simp [cons, HYs.out]; exact HL.out
          · have := HO8.out
            rw [flat_append, List.length_append]
            simpa [flat] using this
          · intro z hz
            rcases List.mem_append.1 hz with h | h
            · exact SOk.kept ((HO.out.ok z h).alloc _) (HOr.out.alloc _) (by decide) (by decide) HK8.out
            · rw [List.mem_singleton] at h
              subst h
              exact SOk.kept (HY.out.alloc _) (HOr.out.alloc _) (by decide) (by decide) HK8.out
end Go.Proofs.Ytlmkkfigmoefdaa.K
