/-
  NetTells: the loops that write over what was handed out (block 9) and what was handed in (block 5).
-/
import Derived.Test.YtkgngfjlmkclcaaNetMut
import Derived.Deep.DeepCutAuto
import Derived.Deep.Light
set_option linter.unusedVariables false
set_option linter.unusedSimpArgs false
namespace Go.Proofs.Ytkgngfjlmkclcaa.K
open Go Go.RowKit Nj

noncomputable def PAll_code : Code := ((Try.f3.body.bind (findB 9)).getD .skip)

set_option maxRecDepth 100000 in
set_option maxHeartbeats 8000000 in
theorem all_mut (g cap : Nat) (ds : List Dv) (B : Nat) (w0 : World) (c0 c1 c2 c3 c4 c5 c6 c7 c8 c9 c10 c11 c12 c13 c14 c15 c18 c19 c20 c21 c22 c23 c24 c25 c26 c27 c28 c29 c30 c31 c32 c33 c34 c35 c36 c37 c38 c39 c40 c41 c42 c43 c44 c45 c46 c47 c48 c49 c50 c51 c52 c53 c54 c55 c56 c57 c58 c59 c60 c61 c62 c63 c64 c65 c66 c67 c68 c69 c70 c71 c72 c73 c74 c75 c76 c77 c78 c79 c80 c81 c82 c83 c84 c85 c86 c87 c88 c89 c90 c91 c92 c93 c94 c95 c96 c97 c98 c99 c100 c101 c102 c103 c104 c105 c106 c107 c108 c109 c110 c111 c112 c113 c114 c115 c116 c117 c118 c119 c120 c121 c122 c123 c124 c125 c126 c127 c128 c129 c130 c131 c132 c133 c134 c135 c136 c137 c138 c139 c140 c141 c142 c143 c144 c145 c146 c147 c148 c149 c150 c151 c152 c153 c154 c155 c156 c157 c158 c159 c160 c161 c162 c163 c164 c165 c166 c167 c168 c169 c170 c171 c172 c173 c174 c175 c176 c177 c178 c179 c180 c181 c182 c183 c184 c185 c186 c187 c188 c189 c190 c191 c192 c193 c194 c195 c196 c197 c198 c199 c200 c201 c202 c203 c204 c205 c206 c207 c208 c209 c210 c211 c212 c213 c214 c215 c216 c217 c218 c219 c220 c221 c222 c223 c224 c225 c226 c227 c228 c229 c230 c231 c232 c233 c234 c235 c236 c237 c238 c239 c240 c241 c242 c243 c244 c245 c246 c247 c248 c249 c250 c251 c252 c253 : Value) (Q : Exit → Act → World → Prop) (hA : MutS 33 5 B g cap ds w0) (hl : ds.length ≤ 1000) (hb : ∀ d ∈ ds, d.bs.length ≤ 140737488351232)
    (hQ : ∀ wx, Mod (fun b => B ≤ b ∧ b < w0.heap.size) w0 wx → ∀ (u17 u18 u226 u227 u228 u229 u230 u231 u232 u233 u234 u235 u236 u237 u238 u239 u240 u241 u242 u243 u244 u245 u246 u247 u248 u249 u250 u251 u252 : Value), Q .normal ⟨List.toArray (c0 :: c1 :: c2 :: c3 :: c4 :: c5 :: c6 :: c7 :: c8 :: c9 :: c10 :: c11 :: c12 :: c13 :: c14 :: c15 :: .slice (some ⟨g, 0, none⟩) ds.length cap :: u17 :: u18 :: c19 :: c20 :: c21 :: c22 :: c23 :: c24 :: c25 :: c26 :: c27 :: c28 :: c29 :: c30 :: c31 :: c32 :: c33 :: c34 :: c35 :: c36 :: c37 :: c38 :: c39 :: c40 :: c41 :: c42 :: c43 :: c44 :: c45 :: c46 :: c47 :: c48 :: c49 :: c50 :: c51 :: c52 :: c53 :: c54 :: c55 :: c56 :: c57 :: c58 :: c59 :: c60 :: c61 :: c62 :: c63 :: c64 :: c65 :: c66 :: c67 :: c68 :: c69 :: c70 :: c71 :: c72 :: c73 :: c74 :: c75 :: c76 :: c77 :: c78 :: c79 :: c80 :: c81 :: c82 :: c83 :: c84 :: c85 :: c86 :: c87 :: c88 :: c89 :: c90 :: c91 :: c92 :: c93 :: c94 :: c95 :: c96 :: c97 :: c98 :: c99 :: c100 :: c101 :: c102 :: c103 :: c104 :: c105 :: c106 :: c107 :: c108 :: c109 :: c110 :: c111 :: c112 :: c113 :: c114 :: c115 :: c116 :: c117 :: c118 :: c119 :: c120 :: c121 :: c122 :: c123 :: c124 :: c125 :: c126 :: c127 :: c128 :: c129 :: c130 :: c131 :: c132 :: c133 :: c134 :: c135 :: c136 :: c137 :: c138 :: c139 :: c140 :: c141 :: c142 :: c143 :: c144 :: c145 :: c146 :: c147 :: c148 :: c149 :: c150 :: c151 :: c152 :: c153 :: c154 :: c155 :: c156 :: c157 :: c158 :: c159 :: c160 :: c161 :: c162 :: c163 :: c164 :: c165 :: c166 :: c167 :: c168 :: c169 :: c170 :: c171 :: c172 :: c173 :: c174 :: c175 :: c176 :: c177 :: c178 :: c179 :: c180 :: c181 :: c182 :: c183 :: c184 :: c185 :: c186 :: c187 :: c188 :: c189 :: c190 :: c191 :: c192 :: c193 :: c194 :: c195 :: c196 :: c197 :: c198 :: c199 :: c200 :: c201 :: c202 :: c203 :: c204 :: c205 :: c206 :: c207 :: c208 :: c209 :: c210 :: c211 :: c212 :: c213 :: c214 :: c215 :: c216 :: c217 :: c218 :: c219 :: c220 :: c221 :: c222 :: c223 :: c224 :: c225 :: u226 :: u227 :: u228 :: u229 :: u230 :: u231 :: u232 :: u233 :: u234 :: u235 :: u236 :: u237 :: u238 :: u239 :: u240 :: u241 :: u242 :: u243 :: u244 :: u245 :: u246 :: u247 :: u248 :: u249 :: u250 :: u251 :: u252 :: c253 :: []), []⟩ wx) :
    Code.wp Try.prog PAll_code Q ⟨List.toArray (c0 :: c1 :: c2 :: c3 :: c4 :: c5 :: c6 :: c7 :: c8 :: c9 :: c10 :: c11 :: c12 :: c13 :: c14 :: c15 :: .slice (some ⟨g, 0, none⟩) ds.length cap :: .int .i64 0 :: c18 :: c19 :: c20 :: c21 :: c22 :: c23 :: c24 :: c25 :: c26 :: c27 :: c28 :: c29 :: c30 :: c31 :: c32 :: c33 :: c34 :: c35 :: c36 :: c37 :: c38 :: c39 :: c40 :: c41 :: c42 :: c43 :: c44 :: c45 :: c46 :: c47 :: c48 :: c49 :: c50 :: c51 :: c52 :: c53 :: c54 :: c55 :: c56 :: c57 :: c58 :: c59 :: c60 :: c61 :: c62 :: c63 :: c64 :: c65 :: c66 :: c67 :: c68 :: c69 :: c70 :: c71 :: c72 :: c73 :: c74 :: c75 :: c76 :: c77 :: c78 :: c79 :: c80 :: c81 :: c82 :: c83 :: c84 :: c85 :: c86 :: c87 :: c88 :: c89 :: c90 :: c91 :: c92 :: c93 :: c94 :: c95 :: c96 :: c97 :: c98 :: c99 :: c100 :: c101 :: c102 :: c103 :: c104 :: c105 :: c106 :: c107 :: c108 :: c109 :: c110 :: c111 :: c112 :: c113 :: c114 :: c115 :: c116 :: c117 :: c118 :: c119 :: c120 :: c121 :: c122 :: c123 :: c124 :: c125 :: c126 :: c127 :: c128 :: c129 :: c130 :: c131 :: c132 :: c133 :: c134 :: c135 :: c136 :: c137 :: c138 :: c139 :: c140 :: c141 :: c142 :: c143 :: c144 :: c145 :: c146 :: c147 :: c148 :: c149 :: c150 :: c151 :: c152 :: c153 :: c154 :: c155 :: c156 :: c157 :: c158 :: c159 :: c160 :: c161 :: c162 :: c163 :: c164 :: c165 :: c166 :: c167 :: c168 :: c169 :: c170 :: c171 :: c172 :: c173 :: c174 :: c175 :: c176 :: c177 :: c178 :: c179 :: c180 :: c181 :: c182 :: c183 :: c184 :: c185 :: c186 :: c187 :: c188 :: c189 :: c190 :: c191 :: c192 :: c193 :: c194 :: c195 :: c196 :: c197 :: c198 :: c199 :: c200 :: c201 :: c202 :: c203 :: c204 :: c205 :: c206 :: c207 :: c208 :: c209 :: c210 :: c211 :: c212 :: c213 :: c214 :: c215 :: c216 :: c217 :: c218 :: c219 :: c220 :: c221 :: c222 :: c223 :: c224 :: c225 :: c226 :: c227 :: c228 :: c229 :: c230 :: c231 :: c232 :: c233 :: c234 :: c235 :: c236 :: c237 :: c238 :: c239 :: c240 :: c241 :: c242 :: c243 :: c244 :: c245 :: c246 :: c247 :: c248 :: c249 :: c250 :: c251 :: c252 :: c253 :: []), []⟩ w0 := by
  have HA := Lib.hid hA
  have HQ := Lib.hid hQ
  have HBs := Lib.hid hb
  have hg := hA.lt
  obtain ⟨hg1, hg2⟩ := hg
  clear hA hQ hb
  conv => arg 2; whnf
  go_wp2_with fail
  go_loopw [17] (fun i wr => ∃ k : Nat, k ≤ ds.length ∧ i = .int .i64 k ∧ MutS 33 5 B g cap ds wr ∧ Mod (fun b => B ≤ b ∧ b < w0.heap.size) w0 wr ∧ wr.heap.size ≤ w0.heap.size) (fun i _ => ds.length - (intOf i).toNat)
  case atStart => exact ⟨0, by omega, rfl, HA.out, Mod.refl _ _, Nat.le_refl _⟩
  case round =>
    obtain ⟨k, hk, rfl, hm, hmod, hsz⟩ := hrel
    have HM := Lib.hid hm
    have HW := Lib.hid hmod
    have HSz := Lib.hid hsz
    clear hm hmod hsz
    by_cases hlt : k < ds.length
    · have t1 : (k : Int) < (ds.length : Int) := by omega
      have t2 : (0 : Int) ≤ (k : Int) := by omega
      obtain ⟨d, hd⟩ : ∃ d, d = ds[k] := ⟨_, rfl⟩
      have HD := Lib.hid hd
      have hdm : d ∈ ds := by rw [hd]; simp
      have HDm := Lib.hid hdm
      obtain ⟨⟨v1, c1⟩, f1⟩ := HM.out.there k 1 hlt (by decide)
      have hdl : d.bs.length ≤ 140737488351232 := HBs.out d hdm
      have HM1 := Lib.hid (HM.out.set_to (by decide) k (.int .i64 (-7)))
      have HW1 := Lib.hid (HW.out.set ⟨g, k * 3 + 1, none⟩ (.int .i64 (-7)) (.inl ⟨hg1, hg2⟩))
      clear hd hdm
      go_upto_region 46 with fail
      refine gen_wp (fun w1 => Hid (MutS 33 5 B g cap ds w1) ∧ Hid (Mod (fun b => B ≤ b ∧ b < w0.heap.size) w0 w1) ∧ Hid (w1.heap.size ≤ w0.heap.size) ∧ True) ⟨Lib.hid HM1.out, Lib.hid HW1.out, Lib.hid (by simp; exact HSz.out), trivial⟩ ?_
      clear c1 f1
      rintro w1 ⟨M1, W1, S1, -⟩
      clear HM1 HW1 HM HW HSz
      obtain ⟨wo, hwo⟩ : ∃ wo : World, wo = wr := ⟨_, rfl⟩
      subst hwo
      go_wp2_with fail
      go_loopw [18] (fun i wi => ∃ j : Nat, j ≤ d.bs.length ∧ i = .int .i64 j ∧ MutS 33 5 B g cap ds wi ∧ Mod (fun b => B ≤ b ∧ b < w0.heap.size) w0 wi ∧ wi.heap.size ≤ w0.heap.size) (fun i _ => d.bs.length - (intOf i).toNat)
      case atStart => exact ⟨0, by omega, rfl, M1.out, W1.out, S1.out⟩
      case round =>
        obtain ⟨j, hj, rfl, hm, hmod, hsz⟩ := hrel
        have HM := Lib.hid hm
        have HW := Lib.hid hmod
        have HSz := Lib.hid hsz
        have c2 := hm.cell k hlt
        rw [← HD.out] at c2
        simp only [Dv.sl] at c2
        clear hm hmod hsz
        by_cases hjt : j < d.bs.length
        · have t3 : (j : Int) < (d.bs.length : Int) := by omega
          have t4 : (0 : Int) ≤ (j : Int) := by omega
          obtain ⟨gb, hgb, hb1, hb2, hby⟩ := HM.out.byte d HDm.out (by omega)
          obtain ⟨⟨v2, c3⟩, f3⟩ := hby j hjt
          rw [hgb] at c2
          have HM1 := Lib.hid (HM.out.set_byte (by decide) d HDm.out gb hgb j (.int .u8 99))
          have HW1 := Lib.hid (HW.out.set ⟨gb, j, none⟩ (.int .u8 99) (.inl ⟨hb1, Nat.lt_of_lt_of_le hb2 HSz.out⟩))
          clear hby hgb
          go_wp2_with fail
          go_roundw
          case rel => exact ⟨j + 1, by omega, by go_num, HM1.out, HW1.out, by simp; exact HSz.out⟩
          case measure => go_light; simp [intOf]; omega
        · have hje : j = d.bs.length := by omega
          subst hje
          have t3 : decide ((d.bs.length : Int) < (d.bs.length : Int)) = false := by simp
          go_wp2_with fail
          go_roundw
          case rel => exact ⟨k + 1, by omega, by go_num, HM.out, HW.out, HSz.out⟩
          case measure => go_light; simp [intOf]; omega
    · have hke : k = ds.length := by omega
      subst hke
      have t1 : decide ((ds.length : Int) < (ds.length : Int)) = false := by simp
      go_wp2_with fail
      exact HQ.out _ HW.out _ _ _ _ _ _ _ _ _ _ _ _ _ _ _ _ _ _ _ _ _ _ _ _ _ _ _ _ _

noncomputable def PIn_code : Code := ((Try.f3.body.bind (findB 5)).getD .skip)

set_option maxRecDepth 100000 in
set_option maxHeartbeats 8000000 in
theorem in_mut (g cap : Nat) (ds : List Dv) (B : Nat) (w0 : World) (c0 c1 c2 c3 c4 c5 c6 c7 c9 c11 c12 c13 c14 c15 c16 c17 c18 c19 c20 c21 c22 c23 c24 c25 c26 c27 c28 c29 c30 c31 c32 c33 c34 c35 c36 c37 c38 c39 c40 c41 c42 c43 c44 c45 c46 c47 c48 c49 c50 c51 c52 c53 c54 c55 c56 c57 c58 c59 c60 c61 c62 c63 c64 c65 c66 c67 c68 c69 c70 c71 c72 c73 c74 c75 c76 c77 c78 c79 c80 c81 c82 c83 c84 c85 c86 c87 c88 c89 c90 c91 c92 c93 c94 c95 c96 c97 c98 c99 c100 c101 c102 c103 c104 c105 c106 c107 c108 c109 c110 c111 c112 c113 c114 c115 c116 c117 c118 c119 c120 c121 c122 c123 c124 c125 c126 c127 c128 c129 c130 c131 c132 c133 c134 c135 c136 c137 c138 c139 c140 c141 c142 c143 c144 c145 c146 c147 c148 c149 c150 c151 c152 c153 c154 c155 c156 c157 c158 c159 c160 c161 c162 c163 c164 c165 c166 c167 c168 c169 c170 c171 c172 c173 c174 c175 c176 c177 c178 c179 c180 c181 c182 c183 c184 c185 c186 c187 c188 c189 c190 c191 c192 c193 c194 c195 c196 c197 c198 c199 c200 c201 c202 c203 c204 c205 c206 c207 c208 c209 c210 c211 c212 c213 c214 c215 c216 c217 c218 c219 c220 c221 c222 c223 c224 c225 c226 c227 c228 c229 c230 c231 c232 c233 c234 c235 c236 c237 c238 c239 c240 c241 c242 c243 c244 c245 c246 c247 c248 c249 c250 c251 c252 c253 : Value) (Q : Exit → Act → World → Prop) (hA : MutS 33 5 B g cap ds w0) (hl : ds.length ≤ 1000) (hb : ∀ d ∈ ds, d.bs.length ≤ 140737488351232)
    (R : Nat → Prop) (hR : ∀ b, R b ↔ (b = g ∨ ∃ d ∈ ds, d.sl.ownBlock = some b))
    (hQ : ∀ wx, Mod R w0 wx → ∀ (u10 u11 u129 u130 u131 u132 u133 u134 u135 u136 u137 u138 u139 u140 u141 u142 u143 u144 u145 u146 u147 u148 u149 u150 u151 : Value), Q .normal ⟨List.toArray (c0 :: c1 :: c2 :: c3 :: c4 :: c5 :: c6 :: c7 :: .slice (some ⟨g, 0, none⟩) ds.length cap :: c9 :: u10 :: u11 :: c12 :: c13 :: c14 :: c15 :: c16 :: c17 :: c18 :: c19 :: c20 :: c21 :: c22 :: c23 :: c24 :: c25 :: c26 :: c27 :: c28 :: c29 :: c30 :: c31 :: c32 :: c33 :: c34 :: c35 :: c36 :: c37 :: c38 :: c39 :: c40 :: c41 :: c42 :: c43 :: c44 :: c45 :: c46 :: c47 :: c48 :: c49 :: c50 :: c51 :: c52 :: c53 :: c54 :: c55 :: c56 :: c57 :: c58 :: c59 :: c60 :: c61 :: c62 :: c63 :: c64 :: c65 :: c66 :: c67 :: c68 :: c69 :: c70 :: c71 :: c72 :: c73 :: c74 :: c75 :: c76 :: c77 :: c78 :: c79 :: c80 :: c81 :: c82 :: c83 :: c84 :: c85 :: c86 :: c87 :: c88 :: c89 :: c90 :: c91 :: c92 :: c93 :: c94 :: c95 :: c96 :: c97 :: c98 :: c99 :: c100 :: c101 :: c102 :: c103 :: c104 :: c105 :: c106 :: c107 :: c108 :: c109 :: c110 :: c111 :: c112 :: c113 :: c114 :: c115 :: c116 :: c117 :: c118 :: c119 :: c120 :: c121 :: c122 :: c123 :: c124 :: c125 :: c126 :: c127 :: c128 :: u129 :: u130 :: u131 :: u132 :: u133 :: u134 :: u135 :: u136 :: u137 :: u138 :: u139 :: u140 :: u141 :: u142 :: u143 :: u144 :: u145 :: u146 :: u147 :: u148 :: u149 :: u150 :: u151 :: c152 :: c153 :: c154 :: c155 :: c156 :: c157 :: c158 :: c159 :: c160 :: c161 :: c162 :: c163 :: c164 :: c165 :: c166 :: c167 :: c168 :: c169 :: c170 :: c171 :: c172 :: c173 :: c174 :: c175 :: c176 :: c177 :: c178 :: c179 :: c180 :: c181 :: c182 :: c183 :: c184 :: c185 :: c186 :: c187 :: c188 :: c189 :: c190 :: c191 :: c192 :: c193 :: c194 :: c195 :: c196 :: c197 :: c198 :: c199 :: c200 :: c201 :: c202 :: c203 :: c204 :: c205 :: c206 :: c207 :: c208 :: c209 :: c210 :: c211 :: c212 :: c213 :: c214 :: c215 :: c216 :: c217 :: c218 :: c219 :: c220 :: c221 :: c222 :: c223 :: c224 :: c225 :: c226 :: c227 :: c228 :: c229 :: c230 :: c231 :: c232 :: c233 :: c234 :: c235 :: c236 :: c237 :: c238 :: c239 :: c240 :: c241 :: c242 :: c243 :: c244 :: c245 :: c246 :: c247 :: c248 :: c249 :: c250 :: c251 :: c252 :: c253 :: []), []⟩ wx) :
    Code.wp Try.prog PIn_code Q ⟨List.toArray (c0 :: c1 :: c2 :: c3 :: c4 :: c5 :: c6 :: c7 :: .slice (some ⟨g, 0, none⟩) ds.length cap :: c9 :: .int .i64 0 :: c11 :: c12 :: c13 :: c14 :: c15 :: c16 :: c17 :: c18 :: c19 :: c20 :: c21 :: c22 :: c23 :: c24 :: c25 :: c26 :: c27 :: c28 :: c29 :: c30 :: c31 :: c32 :: c33 :: c34 :: c35 :: c36 :: c37 :: c38 :: c39 :: c40 :: c41 :: c42 :: c43 :: c44 :: c45 :: c46 :: c47 :: c48 :: c49 :: c50 :: c51 :: c52 :: c53 :: c54 :: c55 :: c56 :: c57 :: c58 :: c59 :: c60 :: c61 :: c62 :: c63 :: c64 :: c65 :: c66 :: c67 :: c68 :: c69 :: c70 :: c71 :: c72 :: c73 :: c74 :: c75 :: c76 :: c77 :: c78 :: c79 :: c80 :: c81 :: c82 :: c83 :: c84 :: c85 :: c86 :: c87 :: c88 :: c89 :: c90 :: c91 :: c92 :: c93 :: c94 :: c95 :: c96 :: c97 :: c98 :: c99 :: c100 :: c101 :: c102 :: c103 :: c104 :: c105 :: c106 :: c107 :: c108 :: c109 :: c110 :: c111 :: c112 :: c113 :: c114 :: c115 :: c116 :: c117 :: c118 :: c119 :: c120 :: c121 :: c122 :: c123 :: c124 :: c125 :: c126 :: c127 :: c128 :: c129 :: c130 :: c131 :: c132 :: c133 :: c134 :: c135 :: c136 :: c137 :: c138 :: c139 :: c140 :: c141 :: c142 :: c143 :: c144 :: c145 :: c146 :: c147 :: c148 :: c149 :: c150 :: c151 :: c152 :: c153 :: c154 :: c155 :: c156 :: c157 :: c158 :: c159 :: c160 :: c161 :: c162 :: c163 :: c164 :: c165 :: c166 :: c167 :: c168 :: c169 :: c170 :: c171 :: c172 :: c173 :: c174 :: c175 :: c176 :: c177 :: c178 :: c179 :: c180 :: c181 :: c182 :: c183 :: c184 :: c185 :: c186 :: c187 :: c188 :: c189 :: c190 :: c191 :: c192 :: c193 :: c194 :: c195 :: c196 :: c197 :: c198 :: c199 :: c200 :: c201 :: c202 :: c203 :: c204 :: c205 :: c206 :: c207 :: c208 :: c209 :: c210 :: c211 :: c212 :: c213 :: c214 :: c215 :: c216 :: c217 :: c218 :: c219 :: c220 :: c221 :: c222 :: c223 :: c224 :: c225 :: c226 :: c227 :: c228 :: c229 :: c230 :: c231 :: c232 :: c233 :: c234 :: c235 :: c236 :: c237 :: c238 :: c239 :: c240 :: c241 :: c242 :: c243 :: c244 :: c245 :: c246 :: c247 :: c248 :: c249 :: c250 :: c251 :: c252 :: c253 :: []), []⟩ w0 := by
  have HA := Lib.hid hA
  have HQ := Lib.hid hQ
  have HBs := Lib.hid hb
  have HR := Lib.hid hR
  clear hA hQ hb hR
  conv => arg 2; whnf
  go_wp2_with fail
  go_loopw [10] (fun i wr => ∃ k : Nat, k ≤ ds.length ∧ i = .int .i64 k ∧ MutS 33 5 B g cap ds wr ∧ Mod R w0 wr) (fun i _ => ds.length - (intOf i).toNat)
  case atStart => exact ⟨0, by omega, rfl, HA.out, Mod.refl _ _⟩
  case round =>
    obtain ⟨k, hk, rfl, hm, hmod⟩ := hrel
    have HM := Lib.hid hm
    have HW := Lib.hid hmod
    clear hm hmod
    by_cases hlt : k < ds.length
    · have t1 : (k : Int) < (ds.length : Int) := by omega
      have t2 : (0 : Int) ≤ (k : Int) := by omega
      obtain ⟨d, hd⟩ : ∃ d, d = ds[k] := ⟨_, rfl⟩
      have HD := Lib.hid hd
      have hdm : d ∈ ds := by rw [hd]; simp
      have HDm := Lib.hid hdm
      have hdl : d.bs.length ≤ 140737488351232 := HBs.out d hdm
      clear hd hdm
      obtain ⟨wo, hwo⟩ : ∃ wo : World, wo = wr := ⟨_, rfl⟩
      subst hwo
      go_wp2_with fail
      go_loopw [11] (fun i wi => ∃ j : Nat, j ≤ d.bs.length ∧ i = .int .i64 j ∧ MutS 33 5 B g cap ds wi ∧ Mod R w0 wi) (fun i _ => d.bs.length - (intOf i).toNat)
      case atStart => exact ⟨0, by omega, rfl, HM.out, HW.out⟩
      case round =>
        obtain ⟨j, hj, rfl, hm, hmod⟩ := hrel
        have HM := Lib.hid hm
        have HW := Lib.hid hmod
        have c2 := hm.cell k hlt
        rw [← HD.out] at c2
        simp only [Dv.sl] at c2
        clear hm hmod
        by_cases hjt : j < d.bs.length
        · have t3 : (j : Int) < (d.bs.length : Int) := by omega
          have t4 : (0 : Int) ≤ (j : Int) := by omega
          obtain ⟨gb, hgb, hb1, hb2, hby⟩ := HM.out.byte d HDm.out (by omega)
          obtain ⟨⟨v2, c3⟩, f3⟩ := hby j hjt
          rw [hgb] at c2
          have HM1 := Lib.hid (HM.out.set_byte (by decide) d HDm.out gb hgb j (.int .u8 77))
          have HW1 := Lib.hid (HW.out.set ⟨gb, j, none⟩ (.int .u8 77) (.inl ((HR.out gb).2 (.inr ⟨d, HDm.out, by simp [Dv.sl, hgb, Value.ownBlock]⟩))))
          clear hby hgb
          go_wp2_with fail
          go_roundw
          case rel => exact ⟨j + 1, by omega, by go_num, HM1.out, HW1.out⟩
          case measure => go_light; simp [intOf]; omega
        · have hje : j = d.bs.length := by omega
          subst hje
          have t3 : decide ((d.bs.length : Int) < (d.bs.length : Int)) = false := by simp
          go_wp2_with fail
          go_roundw
          case rel => exact ⟨k + 1, by omega, by go_num, HM.out, HW.out⟩
          case measure => go_light; simp [intOf]; omega
    · have hke : k = ds.length := by omega
      subst hke
      have t1 : decide ((ds.length : Int) < (ds.length : Int)) = false := by simp
      go_wp2_with fail
      exact HQ.out _ HW.out _ _ _ _ _ _ _ _ _ _ _ _ _ _ _ _ _ _ _ _ _ _ _ _ _
end Go.Proofs.Ytkgngfjlmkclcaa.K
