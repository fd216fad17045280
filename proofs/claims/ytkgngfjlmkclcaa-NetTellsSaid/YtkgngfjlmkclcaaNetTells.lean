/-
  THE STATEMENT 'Rows.NetTellsSaid': nightjarlaw23.NetTells returns true for every input, and its arguments read afterwards as they read before. No condition.
-/
import Derived.Test.YtkgngfjlmkclcaaNetTellS
import Derived.Test.YtkgngfjlmkclcaaRows
import Derived.Deep.DeepCutAuto
import Derived.Deep.CutBlock
import Derived.Deep.Light
import Derived.ProofKit
import Derived.OpenShut
import Derived.ShutString
import Derived.ChangeOld
import Derived.Below
set_option linter.unusedVariables false
set_option linter.unusedSimpArgs false
namespace Go.Proofs.Ytkgngfjlmkclcaa.lawNetTells
open Go Go.RowKit Nj K

set_option maxRecDepth 100000 in
set_option maxHeartbeats 8000000 in
theorem walk (v : Value) (l : List Cl) (w : World) (h : Cls w v l) :
    Calls Try.prog 3 #[v] w fun e w' => e = .returned (.bool true) ∧ Below w.heap.size w w' := by
  have HA := Lib.hid h
  obtain ⟨hm, -, p, cap, rfl, hcap, -⟩ := h.1
  clear h
  by_cases hlong : 100 < l.length
  · have d1 := dec_t (show (100 : Int) < (l.length : Int) by omega)
    go_enter Try.func3, Try.ntmps3
    go_wp2_with fail
    refine (small23_any _).mono ?_; rintro e w1 ⟨rfl, B1⟩
    go_wp2_with fail
    go_ret
    exact ⟨rfl, B1.out⟩
  have d1 := dec_f (show ¬ (100 : Int) < (l.length : Int) by omega)
  go_enter Try.func3, Try.ntmps3
  go_wp2_with fail
  refine (small23_any _).mono ?_; rintro e w1 ⟨rfl, B1⟩
  go_wp2_with fail
  refine (nnew_r _).mono ?_; rintro e w2 ⟨rfl, N2, B2⟩
  go_wp2_with fail
  refine (qnew_r _).mono ?_; rintro e w3 ⟨rfl, N3, B3⟩
  have hz1 := B1.out.size
  have hnb : w1.heap.size < w2.heap.size := netr_box (N2.out 0)
  have BA := Lib.hid (chain (chain B1.out B2.out) B3.out)
  have T3 := Lib.hid (show TwoS w.heap.size w1.heap.size w2.heap.size (fun b => b < w3.heap.size) ⟨[], 0⟩ ⟨[], 0⟩ w3 from by
    obtain ⟨p, c, ds, e1, e2, e3, e4⟩ := netr_keep (N2.out w.heap.size) B3.out
    obtain ⟨p', c', ds', e1', e2', e3', e4'⟩ := N3.out w.heap.size
    have h3 := netr_box (N3.out 0)
    exact ⟨p, c, ds, p', c', ds', e1, e1', e2, e2', fun b hb => (e3 b hb).elim, hz1, by omega, by omega, h3, fun b hb => (e3 b hb).elim, fun b hb => (e3' b hb).elim, fun e he b hb => (e4 e he b hb).elim, fun e he b hb => (e4' e he b hb).elim⟩)
  clear B1 B2 B3 N2 N3 hnb hz1
  go_wp2_with fail
  go_loopw [6] (fun i wr => ∃ (k : Nat) (n : Nw), k ≤ l.length ∧ i = .int .i64 k ∧ n.l.length ≤ 64 ∧ 0 ≤ n.g ∧ n.g ≤ 101 * k ∧ Sm n.l ∧ TwoS w.heap.size w1.heap.size w2.heap.size (fun b => b < wr.heap.size) n n wr ∧ Below w.heap.size w wr) (fun i _ => l.length - (intOf i).toNat)
  case atStart => exact ⟨0, ⟨[], 0⟩, by omega, rfl, by simp, by simp, by simp, (fun x hx => by cases hx), T3.out, BA.out⟩
  case round =>
    obtain ⟨k, n, hk, rfl, hnl, hg0, hg1, hsm, ht, hwb⟩ := hrel
    have HT := Lib.hid ht
    have HB := Lib.hid hwb
    have HSm := Lib.hid hsm
    clear ht hwb hsm T3 BA
    by_cases hlt : k < l.length
    · have t2 : (k : Int) < (l.length : Int) := by omega
      have t3 : (0 : Int) ≤ (k : Int) := by omega
      obtain ⟨x, hx⟩ : ∃ x, x = l[k] := ⟨_, rfl⟩
      obtain ⟨bp, op, rfl, _⟩ := HA.out.1.open (by omega)
      obtain ⟨r0, r1, r2⟩ := tcls_row (Sl.keep (by decide) HA.out.1 HB.out) k hlt x hx
      have HX := Lib.hid hx
      clear hx
      by_cases hbig : 100 < x.l.length
      · have d2 := dec_t (show (100 : Int) < (x.l.length : Int) by omega)
        go_wp2_with fail
        go_ret
        exact ⟨rfl, HB.out⟩
      have d2 := dec_f (show ¬ (100 : Int) < (x.l.length : Int) by omega)
      have hx100 : x.l.length ≤ 100 := by omega
      obtain ⟨wo, hwo⟩ : ∃ wo : World, wo = wr := ⟨_, rfl⟩
      subst hwo
      go_upto_block 2 with fail
      refine tell_all bp op cap k w1.heap.size w2.heap.size l x n w wo _ _ _ _ _ _ _ _ _ _ _ _ _ _ _ _ _ _ _ _ _ _ _ _ _ _ _ _ _ _ _ _ _ _ _ _ _ _ _ _ _ _ _ _ _ _ _ _ _ _ _ _ _ _ _ _ _ _ _ _ _ _ _ _ _ _ _ _ _ _ _ _ _ _ _ _ _ _ _ _ _ _ _ _ _ _ _ _ _ _ _ _ _ _ _ _ _ _ _ _ _ _ _ _ _ _ _ _ _ _ _ _ _ _ _ _ _ _ _ _ _ _ _ _ _ _ _ _ _ _ _ _ _ _ _ _ _ _ _ _ _ _ _ _ _ _ _ _ _ _ _ _ _ _ _ _ _ _ _ _ _ _ _ _ _ _ _ _ _ _ _ _ _ _ _ _ _ _ _ _ _ _ _ _ _ _ _ _ _ _ _ _ _ _ _ _ _ _ _ _ _ _ _ _ _ _ _ _ _ _ _ _ _ _ _ _ _ _ _ _ _ _ _ _ _ _ _ _ _ _ _ _ _ _ _ _ _ _ _ _ _ _ _ _ _ _ _ _ HA.out HB.out hlt HX.out (by omega) hx100 HT.out hnl hg0 (by omega) HSm.out ?_ ?_
      · intro n' w4 h1 h2 h3 h4 h5 h6 u2 u8 u9 u10 u11 u12 u13 u14 u15 u47 u48 u49 u50 u51 u52 u53 u54 u55 u56 u57 u58 u59 u60 u61 u62 u63 u64 u65 u66 u67 u68 u69 u70 u71 u72 u73 u74 u75 u76 u77 u78 u79 u80 u81 u82 u83 u84 u85 u86 u87 u88 u89 u90 u91 u92 u93 u94 u95 u96 u97 u98 u99 u100 u101 u102 u103 u104 u105 u106 u107 u108 u109 u110 u111 u112 u113 u114 u115 u116 u117 u118 u119 u120 u121 u122 u123 u124 u125 u126 u127 u128 u129 u130 u131 u132 u133 u134 u135 u136 u137 u138 u139 u140 u141 u142 u143 u144 u145 u146 u147 u148 u149 u150 u151 u152 u153 u154 u155 u156 u157 u158 u159 u160 u161 u162 u163 u164 u165 u166 u167 u168 u169 u170 u171 u172 u173 u174 u175 u176 u177 u178 u179 u180 u181 u182 u183 u184 u185 u186 u187 u188 u189 u190 u191 u192 u193 u194 u195 u196 u197 u198
        have HN := Lib.hid (show n'.l.length ≤ 64 ∧ 0 ≤ n'.g ∧ n'.g ≤ n.g + 101 from ⟨h1, h2, h3⟩)
        have HS2 := Lib.hid h4
        have T4 := Lib.hid h5
        have BA := Lib.hid h6
        have hszI := Lib.hid h6.size
        have hn64 : n'.l.length ≤ 64 := h1
        clear h1 h2 h3 h4 h5 h6 HT HB r0 r1 r2 HSm
        have HSm' := Lib.hid (show ∀ d ∈ n'.l, d.bs.length ≤ 140737488355328 from fun d hd => by have := HS2.out d hd; omega)
        obtain ⟨⟨Sa, Ta, NA⟩, -⟩ := T4.out.get
        go_wp2_with fail
        refine (nall_any _ _ _ _ _ _ NA hn64 HSm'.out).mono ?_
        rintro e w5 ⟨pA, cA, dsA, rfl, hdA, AD, B5⟩
        have HdA := Lib.hid hdA
        have HdL := Lib.hid (show dsA.length = n'.l.length by rw [← hdA, List.length_map])
        have T5 := Lib.hid (T4.out.keep B5.out)
        have hz5 := B5.out.size
        replace BA := Lib.hid (chain BA.out B5.out)
        clear hdA NA B5
        obtain ⟨pa, ca, da, pb, cb, db, e1, e2, NA, NB, -⟩ := T5.out
        have HE2 := Lib.hid e2
        have HNB := Lib.hid NB
        have hbl : db.length = n'.l.length := by rw [← e2, List.length_map]
        have HBl := Lib.hid hbl
        have cB := cell_of_block NB.box
        have v1 := bne_self_eq_false ((n'.l.length : Int))
        have v2 := bne_self_eq_false n'.g
        clear e1 e2 NA NB hbl
        go_wp2_with fail
        refine (same_any _ _ dsA db _ (alld_dgs AD.out) ⟨HNB.out.row.sl, fun d hd => OwnB.bts (HNB.out.bts d hd)⟩ (by rw [HdA.out, HE2.out]) (by have := HdL.out; omega)).mono ?_
        rintro e w6 ⟨rfl, B6⟩
        have T6 := Lib.hid (T5.out.keep B6.out)
        have AD6 := Lib.hid (show AllD w4.heap.size w6 (.slice pA dsA.length cA) dsA from ⟨AD.out.1.keep B6.out, fun d hd => Own.keep (AD.out.2 d hd) B6.out⟩)
        replace BA := Lib.hid (chain BA.out B6.out)
        have hz6 := B6.out.size
        clear B6 AD HNB cB HE2 HBl
        obtain ⟨⟨Sa', Ta', NA⟩, ⟨Sb', Tb', NB⟩⟩ := T6.out.get
        go_wp2_with fail
        refine (nlen_r _ _ _ _ _ _ NA).mono ?_; rintro e wa ⟨rfl, rfl⟩
        go_wp2_with fail
        refine (qlen_r _ _ _ _ _ _ NB).mono ?_; rintro e wa ⟨rfl, rfl⟩
        go_wp2_with fail
        refine (nlost_r _ _ _ _ _ _ NA).mono ?_; rintro e wa ⟨rfl, rfl⟩
        go_wp2_with fail
        refine (qlost_r _ _ _ _ _ _ NB).mono ?_; rintro e wa ⟨rfl, rfl⟩
        clear NA NB
        by_cases h0 : dsA.length = 0
        · have e8 := List.length_eq_zero_iff.1 h0
          subst e8
          simp only [List.length_nil] at *
          go_wp2_with fail
          go_loopw [17] (fun i wr => i = .int .i64 0 ∧ wr = w6) (fun _ _ => 0)
          case atStart => exact ⟨rfl, rfl⟩
          obtain ⟨rfl, rfl⟩ := hrel
          go_wp2_with fail
          go_roundw
          case rel =>
            obtain ⟨q1, q2, q3⟩ := HN.out
            exact ⟨k + 1, n', by omega, by go_num, q1, q2, by omega, HS2.out, T6.out.lt, BA.out⟩
          case measure => go_light; simp [intOf]; omega
        · obtain ⟨g8, hg8⟩ : ∃ g8, pA = some ⟨g8, 0, none⟩ := by
            rcases own_head AD6.out.1 with e | ⟨g8, e⟩
            · subst e
              obtain ⟨b, o, e, _⟩ := AD6.out.1.sl.open (by omega)
              cases e
            · exact ⟨g8, e⟩
          subst hg8
          have HMu := Lib.hid (muts_of_all AD6.out.1 AD6.out.2)
          have hda : ∀ d ∈ dsA, d.bs.length ≤ 140737488351232 := fun d hd => by
            have : d.con ∈ n'.l := by rw [← HdA.out]; exact List.mem_map_of_mem hd
            exact HS2.out _ this
          have Hda := Lib.hid hda
          clear h0 hda
          go_upto_block 9 with fail
          refine all_mut g8 cA dsA w4.heap.size w6 _ _ _ _ _ _ _ _ _ _ _ _ _ _ _ _ _ _ _ _ _ _ _ _ _ _ _ _ _ _ _ _ _ _ _ _ _ _ _ _ _ _ _ _ _ _ _ _ _ _ _ _ _ _ _ _ _ _ _ _ _ _ _ _ _ _ _ _ _ _ _ _ _ _ _ _ _ _ _ _ _ _ _ _ _ _ _ _ _ _ _ _ _ _ _ _ _ _ _ _ _ _ _ _ _ _ _ _ _ _ _ _ _ _ _ _ _ _ _ _ _ _ _ _ _ _ _ _ _ _ _ _ _ _ _ _ _ _ _ _ _ _ _ _ _ _ _ _ _ _ _ _ _ _ _ _ _ _ _ _ _ _ _ _ _ _ _ _ _ _ _ _ _ _ _ _ _ _ _ _ _ _ _ _ _ _ _ _ _ _ _ _ _ _ _ _ _ _ _ _ _ _ _ _ _ _ _ _ _ _ _ _ _ _ _ _ _ _ _ _ _ _ _ _ _ _ _ _ _ _ _ _ _ _ _ _ _ _ _ _ _ _ _ _ _ _ _ _ _ _ _ _ _ HMu.out (by have := HdL.out; omega) Hda.out ?_
          intro w7 hM u17 u18 u226 u227 u228 u229 u230 u231 u232 u233 u234 u235 u236 u237 u238 u239 u240 u241 u242 u243 u244 u245 u246 u247 u248 u249 u250 u251 u252
          have M7 := Lib.hid hM
          clear hM
          have T7 := Lib.hid (T6.out.mod M7.out (fun b hp h => by have h1 : b < w4.heap.size := hp; have h2 := h.1; omega))
          replace BA := Lib.hid (M7.out.below BA.out BA.out.size (fun b h => by have h2 := h.1; have := hszI.out; omega))
          clear M7 T6 AD6 HMu
          go_wp2_with fail
          go_roundw
          case rel =>
            obtain ⟨q1, q2, q3⟩ := HN.out
            exact ⟨k + 1, n', by omega, by go_num, q1, q2, by omega, HS2.out, T7.out.lt, BA.out⟩
          case measure => go_light; simp [intOf]; omega
      · intro wx hb u7 u8 u9 u10 u11 u12 u13 u14 u15 u47 u48 u49 u50 u51 u52 u53 u54 u55 u56 u57 u58 u59 u60 u61 u62 u63 u64 u65 u66 u67 u68 u69 u70 u71 u72 u73 u74 u75 u76 u77 u78 u79 u80 u81 u82 u83 u84 u85 u86 u87 u88 u89 u90 u91 u92 u93 u94 u95 u96 u97 u98 u99 u100 u101 u102 u103 u104 u105 u106 u107 u108 u109 u110 u111 u112 u113 u114 u115 u116 u117 u118 u119 u120 u121 u122 u123 u124 u125 u126 u127 u128 u129 u130 u131 u132 u133 u134 u135 u136 u137 u138 u139 u140 u141 u142 u143 u144 u145 u146 u147 u148 u149 u150 u151 u152 u153 u154 u155 u156 u157 u158 u159 u160 u161 u162 u163 u164 u165 u166 u167 u168 u169 u170 u171 u172 u173 u174 u175 u176 u177 u178 u179 u180 u181 u182 u183 u184 u185 u186 u187 u188 u189 u190 u191 u192 u193 u194 u195 u196 u197 u198
        go_wp2_with fail
        go_ret
        exact ⟨rfl, hb⟩
    · have hke : k = l.length := by omega
      subst hke
      have t2 : decide ((l.length : Int) < (l.length : Int)) = false := by simp
      go_wp2_with fail
      go_ret
      exact ⟨rfl, HB.out⟩

end Go.Proofs.Ytkgngfjlmkclcaa.lawNetTells
namespace Go.Proofs.Ytkgngfjlmkclcaa.lawNetTells
open Go.ChangeShapes Go.WideShapes Go.RowKit
set_option linter.unusedVariables false
theorem own : ownKnob Try.prog.godebug = none := by kernel_rfl
theorem laidOut : laidOutB Try.prog = true := by kernel_rfl
set_option maxRecDepth 100000 in
theorem lifted (os : Os) (started : os.Started) (H : Type) (enc : TypeId × Value → H) :
    ReturnsInHanded {} Try.checked os 3 .any (Rows.netTellsSpec.pre6 enc Try.prog Try.f3 Rows.netTellsRow.domain false) (Rows.netTellsSpec.post enc Try.prog Try.f3 false true false false) := by
  refine returnsInHanded_of_change_sized (C := Try.checked) own started (by kernel_rfl) Try.func3
    (ChangeSpec.witness6 (enc := enc) (C := Try.checked) false ⟨#[], #[.slice none 0 0], []⟩ 8 (by kernel_rfl) (by kernel_rfl) (by kernel_rfl) (by kernel_rfl)) ?_
  intro W base args ds gs before hval0 hW hcnd hsz0 _
  have hsz : (DataW.weightsEach Try.prog (Try.f3.params.toList ++ Rows.netTellsSpec.plain.varTypes Try.prog) (ds ++ gs)).all (· ≤ reachBytes) = true := hsz0
  clear hsz0
  have hval : ∀ (j : Nat) t v, Try.f3.params[j]? = some t → args[j]? = some v → Value.okWide Try.prog W .any base t v := hval0
  have hW' := hW
  obtain ⟨p, q, hA0, hV, rfl, hfz, hnd⟩ := hW
  have hA : DataW.TrodAll enc Try.prog W 0 (fun _ => true) true Try.f3.params.toList args.toList ds p := hA0
  rw [Try.params3] at hA hval hsz
  obtain ⟨v0, vs0, d0, ds0, p0, q0, hargs, rfl, rfl, h0, r0⟩ := trodAll_cons hA
  obtain ⟨rfl, rfl, rfl⟩ := trodAll_nil r0
  obtain rfl : args = #[v0] := by cases args; simp_all
  obtain ⟨rfl, rfl⟩ := trodVars_none hV
  obtain ⟨a0, len0, cap0, rfl⟩ := okWide_slice Try.underlying22 (hval 0 22 v0 rfl rfl)
  have k0 := h0
  have lt0 : ∀ x ∈ p0, x.block < W.heap.size := by obtain ⟨m, hm⟩ := k0; exact DataW.trod_lt m _ _ _ hm
  have fit0 : Nj.Fit Try.prog 22 d0 := fun n hn => by simpa using List.all_eq_true.1 hsz n (DataW.weights_mem_each (j := 0) rfl rfl n hn)
  obtain ⟨z0, y0, w0⟩ : ∃ l : List Nj.Cl, l.length = len0 ∧ Nj.Cls W (.slice a0 len0 cap0) l := by
    obtain ⟨fuel, hf⟩ := h0
    exact K.open_cls hf fit0
  clear hA0 hval0
  refine (walk _ z0 W w0).mono fun e W' ⟨he, bel⟩ => ?_
  subst he
  exact ⟨_, rfl, _, _, _, [], _, [], hW', trodAll_mk1 (shut_bool Try.underlying4 _), (trodAll_cons_mk (Below.trod laidOut (by kernel_rfl) (of_decide_eq_true (by kernel_rfl)) k0 bel lt0) trodAll_mk0), rfl, bel.frame _, fun h => by cases h⟩
theorem over : Rows.netTellsRow.holds Try.pinned (OpenSpec.ofChange Rows.netTellsSpec) :=
  OpenClaim.holds_of_wide 3 Try.f3 rfl rfl rfl rfl rfl rfl rfl ⟨rfl, rfl, rfl, rfl, rfl⟩ rfl rfl rfl rfl rfl (by kernel_rfl) Try.func3 (by kernel_rfl)
    (of_decide_eq_true (by kernel_rfl)) (by unfold Func.isWrapper; first | (rw [if_pos (by decide +kernel)]; kernel_rfl) | (rw [if_neg (by decide +kernel)]; exact ⟨rfl, rfl⟩))
    (fun os started H enc _ => lifted os started H enc)
/-- THE STATEMENT -/
theorem proved : Rows.NetTellsSaid := over
end Go.Proofs.Ytkgngfjlmkclcaa.lawNetTells
#print axioms Go.Proofs.Ytkgngfjlmkclcaa.lawNetTells.proved
