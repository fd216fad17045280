/-
  SessionTells: the loops that write over what was handed out (block 3).
-/
import Derived.Test.YtlmkkfigmoefdaaSesMut
import Derived.Test.YtlmkkfigmoefdaaBox
import Derived.Deep.DeepCutAuto
import Derived.Deep.Light
set_option linter.unusedVariables false
set_option linter.unusedSimpArgs false
namespace Go.Proofs.Ytlmkkfigmoefdaa.K
open Go Go.RowKit Nj

noncomputable def PTM_code : Code := ((Try.f3.body.bind (findB 3)).getD .skip)

set_option maxRecDepth 100000 in
set_option maxHeartbeats 8000000 in
theorem tses_mut (g cap : Nat) (ds : List Sv) (B B2 : Nat) (w0 : World) (c0 c1 c2 c3 c4 c5 c6 c7 c8 c9 c10 c11 c12 c14 c15 c16 c17 c18 c19 c20 c21 c22 c23 c24 c25 c26 c27 c28 c29 c30 c31 c33 c34 c35 c36 c37 c38 c39 c40 c41 c42 c43 c44 c45 c46 c47 c48 c49 c50 c51 c52 c53 c54 c55 c56 c57 c58 c59 c60 c61 c62 c63 c64 c65 c66 c67 c68 c69 c70 c71 c72 c73 c74 c75 c76 c77 c78 c79 c80 c81 c82 c83 c84 c85 c86 c87 c88 c89 c90 c91 c92 c93 c94 c95 c96 c97 c98 c99 c100 c101 c102 c103 c104 c105 c106 c107 c108 c109 c110 c111 c112 c113 c114 c115 c116 c117 c118 c119 c120 c121 c122 c123 c124 c125 c126 c127 c128 c129 c130 c131 c132 c133 c134 c135 c136 c137 c138 c139 c140 c141 c142 c143 c144 c145 c146 c147 c148 c149 c150 c151 c152 c153 c154 c155 c156 c157 c158 c159 c160 c161 c162 c163 c164 c165 c166 c167 c168 c169 c170 c171 c172 c173 c174 c175 c176 c177 c178 c179 c180 c181 c182 c183 c184 c185 c186 c187 c188 c189 c190 c191 c192 c193 c194 c195 c196 c197 c198 c199 c200 c201 c202 c203 c204 c205 c206 c207 c208 c209 c210 c211 c212 c213 c214 c215 c216 c217 c218 c219 c220 c221 c222 c223 c224 c225 c226 c227 c228 c229 c230 c231 c232 c233 c234 c235 c236 c237 c238 c239 c240 c241 c242 c243 c244 c245 c246 c247 c248 c249 c250 c251 c252 c253 c254 c255 c256 c257 c258 c259 c260 c261 c262 c263 c264 c265 c266 c267 c268 c269 c270 c271 c272 c273 c274 : Value) (Q : Exit → Act → World → Prop) (hA : MutS 38 57 B g cap ds w0) (hl : ds.length ≤ 1000) (hb : ∀ d ∈ ds, d.s.beats.length ≤ 1000) (hg2 : g < B2) (hB2 : ∀ d ∈ ds, ∀ k, d.bsl.ownBlock = some k → k < B2)
    (hQ : ∀ wx, Mod (fun b => B ≤ b ∧ b < B2) w0 wx → ∀ (u32 u33 u246 u247 u248 u249 u250 u251 u252 u253 u254 u255 u256 u257 u258 u259 u260 u261 u262 u263 u264 u265 u266 u267 u268 u269 u270 u271 u272 u273 : Value), Q .normal ⟨List.toArray (c0 :: c1 :: c2 :: c3 :: c4 :: c5 :: c6 :: c7 :: c8 :: c9 :: c10 :: c11 :: c12 :: .slice (some ⟨g, 0, none⟩) ds.length cap :: c14 :: c15 :: c16 :: c17 :: c18 :: c19 :: c20 :: c21 :: c22 :: c23 :: c24 :: c25 :: c26 :: c27 :: c28 :: c29 :: c30 :: c31 :: u32 :: u33 :: c34 :: c35 :: c36 :: c37 :: c38 :: c39 :: c40 :: c41 :: c42 :: c43 :: c44 :: c45 :: c46 :: c47 :: c48 :: c49 :: c50 :: c51 :: c52 :: c53 :: c54 :: c55 :: c56 :: c57 :: c58 :: c59 :: c60 :: c61 :: c62 :: c63 :: c64 :: c65 :: c66 :: c67 :: c68 :: c69 :: c70 :: c71 :: c72 :: c73 :: c74 :: c75 :: c76 :: c77 :: c78 :: c79 :: c80 :: c81 :: c82 :: c83 :: c84 :: c85 :: c86 :: c87 :: c88 :: c89 :: c90 :: c91 :: c92 :: c93 :: c94 :: c95 :: c96 :: c97 :: c98 :: c99 :: c100 :: c101 :: c102 :: c103 :: c104 :: c105 :: c106 :: c107 :: c108 :: c109 :: c110 :: c111 :: c112 :: c113 :: c114 :: c115 :: c116 :: c117 :: c118 :: c119 :: c120 :: c121 :: c122 :: c123 :: c124 :: c125 :: c126 :: c127 :: c128 :: c129 :: c130 :: c131 :: c132 :: c133 :: c134 :: c135 :: c136 :: c137 :: c138 :: c139 :: c140 :: c141 :: c142 :: c143 :: c144 :: c145 :: c146 :: c147 :: c148 :: c149 :: c150 :: c151 :: c152 :: c153 :: c154 :: c155 :: c156 :: c157 :: c158 :: c159 :: c160 :: c161 :: c162 :: c163 :: c164 :: c165 :: c166 :: c167 :: c168 :: c169 :: c170 :: c171 :: c172 :: c173 :: c174 :: c175 :: c176 :: c177 :: c178 :: c179 :: c180 :: c181 :: c182 :: c183 :: c184 :: c185 :: c186 :: c187 :: c188 :: c189 :: c190 :: c191 :: c192 :: c193 :: c194 :: c195 :: c196 :: c197 :: c198 :: c199 :: c200 :: c201 :: c202 :: c203 :: c204 :: c205 :: c206 :: c207 :: c208 :: c209 :: c210 :: c211 :: c212 :: c213 :: c214 :: c215 :: c216 :: c217 :: c218 :: c219 :: c220 :: c221 :: c222 :: c223 :: c224 :: c225 :: c226 :: c227 :: c228 :: c229 :: c230 :: c231 :: c232 :: c233 :: c234 :: c235 :: c236 :: c237 :: c238 :: c239 :: c240 :: c241 :: c242 :: c243 :: c244 :: c245 :: u246 :: u247 :: u248 :: u249 :: u250 :: u251 :: u252 :: u253 :: u254 :: u255 :: u256 :: u257 :: u258 :: u259 :: u260 :: u261 :: u262 :: u263 :: u264 :: u265 :: u266 :: u267 :: u268 :: u269 :: u270 :: u271 :: u272 :: u273 :: c274 :: []), []⟩ wx) :
    Code.wp Try.prog PTM_code Q ⟨List.toArray (c0 :: c1 :: c2 :: c3 :: c4 :: c5 :: c6 :: c7 :: c8 :: c9 :: c10 :: c11 :: c12 :: .slice (some ⟨g, 0, none⟩) ds.length cap :: c14 :: c15 :: c16 :: c17 :: c18 :: c19 :: c20 :: c21 :: c22 :: c23 :: c24 :: c25 :: c26 :: c27 :: c28 :: c29 :: c30 :: c31 :: .int .i64 0 :: c33 :: c34 :: c35 :: c36 :: c37 :: c38 :: c39 :: c40 :: c41 :: c42 :: c43 :: c44 :: c45 :: c46 :: c47 :: c48 :: c49 :: c50 :: c51 :: c52 :: c53 :: c54 :: c55 :: c56 :: c57 :: c58 :: c59 :: c60 :: c61 :: c62 :: c63 :: c64 :: c65 :: c66 :: c67 :: c68 :: c69 :: c70 :: c71 :: c72 :: c73 :: c74 :: c75 :: c76 :: c77 :: c78 :: c79 :: c80 :: c81 :: c82 :: c83 :: c84 :: c85 :: c86 :: c87 :: c88 :: c89 :: c90 :: c91 :: c92 :: c93 :: c94 :: c95 :: c96 :: c97 :: c98 :: c99 :: c100 :: c101 :: c102 :: c103 :: c104 :: c105 :: c106 :: c107 :: c108 :: c109 :: c110 :: c111 :: c112 :: c113 :: c114 :: c115 :: c116 :: c117 :: c118 :: c119 :: c120 :: c121 :: c122 :: c123 :: c124 :: c125 :: c126 :: c127 :: c128 :: c129 :: c130 :: c131 :: c132 :: c133 :: c134 :: c135 :: c136 :: c137 :: c138 :: c139 :: c140 :: c141 :: c142 :: c143 :: c144 :: c145 :: c146 :: c147 :: c148 :: c149 :: c150 :: c151 :: c152 :: c153 :: c154 :: c155 :: c156 :: c157 :: c158 :: c159 :: c160 :: c161 :: c162 :: c163 :: c164 :: c165 :: c166 :: c167 :: c168 :: c169 :: c170 :: c171 :: c172 :: c173 :: c174 :: c175 :: c176 :: c177 :: c178 :: c179 :: c180 :: c181 :: c182 :: c183 :: c184 :: c185 :: c186 :: c187 :: c188 :: c189 :: c190 :: c191 :: c192 :: c193 :: c194 :: c195 :: c196 :: c197 :: c198 :: c199 :: c200 :: c201 :: c202 :: c203 :: c204 :: c205 :: c206 :: c207 :: c208 :: c209 :: c210 :: c211 :: c212 :: c213 :: c214 :: c215 :: c216 :: c217 :: c218 :: c219 :: c220 :: c221 :: c222 :: c223 :: c224 :: c225 :: c226 :: c227 :: c228 :: c229 :: c230 :: c231 :: c232 :: c233 :: c234 :: c235 :: c236 :: c237 :: c238 :: c239 :: c240 :: c241 :: c242 :: c243 :: c244 :: c245 :: c246 :: c247 :: c248 :: c249 :: c250 :: c251 :: c252 :: c253 :: c254 :: c255 :: c256 :: c257 :: c258 :: c259 :: c260 :: c261 :: c262 :: c263 :: c264 :: c265 :: c266 :: c267 :: c268 :: c269 :: c270 :: c271 :: c272 :: c273 :: c274 :: []), []⟩ w0 := by
  have HA := Lib.hid hA
  have HQ := Lib.hid hQ
  have HBs := Lib.hid hb
  have HB2 := Lib.hid hB2
  have hg1 := hA.lt.1
  clear hA hQ hb hB2
  conv => arg 2; whnf
  go_wp2_with fail
  go_loopw [32] (fun i wr => ∃ k : Nat, k ≤ ds.length ∧ i = .int .i64 k ∧ MutS 38 57 B g cap ds wr ∧ Mod (fun b => B ≤ b ∧ b < B2) w0 wr ∧ wr.heap.size ≤ w0.heap.size) (fun i _ => ds.length - (intOf i).toNat)
  case atStart => exact ⟨0, by omega, rfl, HA.out, Mod.refl _ _, Nat.le_refl _⟩
  case round =>
    obtain ⟨k, hk, rfl, hm, hmod, hsz⟩ := hrel
    have HM := Lib.hid hm
    have HW := Lib.hid hmod
    have HSz := Lib.hid hsz
    clear hm hmod hsz
    by_cases hlt : k < ds.length
    · have t1 : (k : Int) < (ds.length : Int) := by omega
      have t2 : (0 : Int) ≤ (k : Int) := by omega
      obtain ⟨d, hd⟩ : ∃ d, d = ds[k] := ⟨_, rfl⟩
      have HD := Lib.hid hd
      have hdm : d ∈ ds := by rw [hd]; simp
      have HDm := Lib.hid hdm
      have hth := HM.out.there k 0 hlt (by decide)
      rw [Nat.add_zero] at hth
      obtain ⟨⟨v1, c1⟩, f1⟩ := hth
      have hdl : d.s.beats.length ≤ 1000 := HBs.out d hdm
      have HM1 := Lib.hid (HM.out.set_id k (.int .i64 (-7)))
      have HW1 := Lib.hid (HW.out.set ⟨g, k * 35, none⟩ (.int .i64 (-7)) (.inl ⟨hg1, hg2⟩))
      clear hd hdm
      go_upto_region 47 with fail
      refine gen_wp (fun w1 => Hid (MutS 38 57 B g cap ds w1) ∧ Hid (Mod (fun b => B ≤ b ∧ b < B2) w0 w1) ∧ Hid (w1.heap.size ≤ w0.heap.size) ∧ True) ⟨Lib.hid HM1.out, Lib.hid HW1.out, Lib.hid (by simp; exact HSz.out), trivial⟩ ?_
      clear c1 f1
      rintro w1 ⟨M1, W1, S1, -⟩
      clear HM1 HW1 HM HW HSz
      obtain ⟨wo, hwo⟩ : ∃ wo : World, wo = wr := ⟨_, rfl⟩
      subst hwo
      go_wp2_with fail
      go_loopw [33] (fun i wi => ∃ j : Nat, j ≤ d.s.beats.length ∧ i = .int .i64 j ∧ MutS 38 57 B g cap ds wi ∧ Mod (fun b => B ≤ b ∧ b < B2) w0 wi ∧ wi.heap.size ≤ w0.heap.size) (fun i _ => d.s.beats.length - (intOf i).toNat)
      case atStart => exact ⟨0, by omega, rfl, M1.out, W1.out, S1.out⟩
      case round =>
        obtain ⟨j, hj, rfl, hm, hmod, hsz⟩ := hrel
        have HM := Lib.hid hm
        have HW := Lib.hid hmod
        have HSz := Lib.hid hsz
        have c2 := hm.cell k hlt
        rw [← HD.out] at c2
        simp only [Sv.bsl] at c2
        clear hm hmod hsz
        by_cases hjt : j < d.s.beats.length
        · have t3 : (j : Int) < (d.s.beats.length : Int) := by omega
          have t4 : (0 : Int) ≤ (j : Int) := by omega
          obtain ⟨gb, hgb, hb1, hb2, hby⟩ := HM.out.beat d HDm.out (by omega)
          obtain ⟨⟨v2, c3⟩, f3⟩ := hby j hjt
          rw [hgb] at c2
          have HM1 := Lib.hid (HM.out.set_beat (by decide) d HDm.out gb hgb (j * 2 + 1) (.int .i64 77))
          have HW1 := Lib.hid (HW.out.set ⟨gb, j * 2 + 1, none⟩ (.int .i64 77) (.inl ⟨hb1, HB2.out d HDm.out gb (by rw [Sv.bsl, hgb]; rfl)⟩))
          clear hby hgb
          go_wp2_with fail
          go_roundw
          case rel => exact ⟨j + 1, by omega, by go_num, HM1.out, HW1.out, by simp; exact HSz.out⟩
          case measure => go_light; simp [intOf]; omega
        · have hje : j = d.s.beats.length := by omega
          subst hje
          have t3 : decide ((d.s.beats.length : Int) < (d.s.beats.length : Int)) = false := by simp
          go_wp2_with fail
          go_roundw
          case rel => exact ⟨k + 1, by omega, by go_num, HM.out, HW.out, HSz.out⟩
          case measure => go_light; simp [intOf]; omega
    · have hke : k = ds.length := by omega
      subst hke
      have t1 : decide ((ds.length : Int) < (ds.length : Int)) = false := by simp
      go_wp2_with fail
      exact HQ.out _ HW.out _ _ _ _ _ _ _ _ _ _ _ _ _ _ _ _ _ _ _ _ _ _ _ _ _ _ _ _ _ _
end Go.Proofs.Ytlmkkfigmoefdaa.K
