/-
  SessionTells: the switch (block 2), act by act.
-/
import Derived.Test.YtlmkkfigmoefdaaSesPlain3
import Derived.Test.YtlmkkfigmoefdaaSesR6
import Derived.Test.YtlmkkfigmoefdaaSesAct
import Derived.Test.YtlmkkfigmoefdaaSesMut
import Derived.Test.YtlmkkfigmoefdaaBox
import Derived.Deep.DeepCutAuto
import Derived.Deep.CutBlock
import Derived.Deep.Light
set_option linter.unusedVariables false
set_option linter.unusedSimpArgs false
namespace Go.Proofs.Ytlmkkfigmoefdaa.K
open Go Go.RowKit Nj

noncomputable def PTS_code : Code := ((Try.f3.body.bind (findB 2)).getD .skip)

set_option maxRecDepth 100000 in
set_option maxHeartbeats 8000000 in
theorem tact_all (pl : Option Addr) (cl ba : Nat) (X : List Sv) (a : Sa) (w0 : World) (c0 c1 c2 c3 c4 c5 c6 c7 c8 c10 c12 c16 c17 c18 c19 c20 c21 c22 c23 c24 c25 c26 c27 c28 c29 c30 c31 c32 c33 c34 c35 c36 c37 c38 c39 c40 c41 c42 c43 c44 c45 c46 c47 c48 c49 c50 c51 c52 c53 c54 c55 c56 c57 c58 c59 c60 c61 c62 c63 c64 c65 c66 c67 c68 c69 c70 c71 c72 c73 c74 c75 c76 c77 c78 c79 c80 c81 c82 c83 c84 c85 c86 c87 c88 c89 c90 c91 c92 c93 c94 c95 c96 c97 c98 c99 c100 c102 c103 c104 c105 c106 c107 c108 c109 c110 c111 c112 c113 c114 c115 c116 c117 c118 c119 c120 c121 c122 c123 c124 c125 c126 c127 c128 c129 c130 c131 c132 c133 c134 c135 c136 c137 c138 c139 c140 c141 c142 c143 c144 c145 c146 c147 c148 c149 c150 c151 c152 c153 c154 c155 c156 c157 c158 c159 c160 c161 c162 c163 c164 c165 c166 c167 c168 c169 c170 c171 c172 c173 c174 c175 c176 c177 c178 c179 c180 c181 c182 c183 c184 c185 c186 c187 c188 c189 c190 c191 c192 c193 c194 c195 c196 c197 c198 c199 c200 c201 c202 c203 c204 c205 c206 c207 c208 c209 c210 c211 c212 c213 c214 c215 c216 c217 c218 c219 c220 c221 c222 c223 c224 c225 c226 c227 c228 c229 c230 c231 c232 c233 c234 c235 c236 c237 c238 c239 c240 c241 c242 c243 c244 c245 c246 c247 c248 c249 c250 c251 c252 c253 c254 c255 c256 c257 c258 c259 c260 c261 c262 c263 c264 c265 c266 c267 c268 c269 c270 c271 c272 c273 c274 : Value) (Q : Exit → Act → World → Prop) (hT : Sess w0 (.slice pl X.length cl) X) (hA : w0.heap[ba]? = some (.cells a.cells.toArray 40)) (hX : Sok w0 a.x) (hR : sesRight (cons X) = true)
    (hQ : ∀ (p13 : Option Addr) (c13 : Nat) (P : List Sv) (p14 : Option Addr) (c14 : Nat) (R : List Sv) (wx : World), sesRight (cons P) = true → cons P = cons R → OwnS 38 57 85 w0.heap.size wx (.slice p13 P.length c13) P → Sess wx (.slice p14 R.length c14) R → Below w0.heap.size w0 wx → ∀ (u16 u17 u18 u19 u20 u21 u22 u23 u24 u25 u26 u27 u102 u103 u104 u105 u106 u107 u108 u109 u110 u111 u112 u113 u114 u115 u116 u117 u118 u119 u120 u121 u122 u123 u124 u125 u126 u127 u128 u129 u130 u131 u132 u133 u134 u135 u136 u137 u138 u139 u140 u141 u142 u143 u144 u145 u146 u147 u148 u149 u150 u151 u152 u153 u154 u155 u156 u157 u158 u159 u160 u161 u162 u163 u164 u165 u166 u167 u168 u169 u170 u171 : Value), Q .normal ⟨List.toArray (c0 :: c1 :: c2 :: c3 :: c4 :: c5 :: c6 :: c7 :: c8 :: .slice pl X.length cl :: c10 :: .pointer (some ⟨ba, 0, none⟩) :: c12 :: .slice p13 P.length c13 :: .slice p14 R.length c14 :: .bool true :: u16 :: u17 :: u18 :: u19 :: u20 :: u21 :: u22 :: u23 :: u24 :: u25 :: u26 :: u27 :: c28 :: c29 :: c30 :: c31 :: c32 :: c33 :: c34 :: c35 :: c36 :: c37 :: c38 :: c39 :: c40 :: c41 :: c42 :: c43 :: c44 :: c45 :: c46 :: c47 :: c48 :: c49 :: c50 :: c51 :: c52 :: c53 :: c54 :: c55 :: c56 :: c57 :: c58 :: c59 :: c60 :: c61 :: c62 :: c63 :: c64 :: c65 :: c66 :: c67 :: c68 :: c69 :: c70 :: c71 :: c72 :: c73 :: c74 :: c75 :: c76 :: c77 :: c78 :: c79 :: c80 :: c81 :: c82 :: c83 :: c84 :: c85 :: c86 :: c87 :: c88 :: c89 :: c90 :: c91 :: c92 :: c93 :: c94 :: c95 :: c96 :: c97 :: c98 :: c99 :: c100 :: .int .i64 a.do_ :: u102 :: u103 :: u104 :: u105 :: u106 :: u107 :: u108 :: u109 :: u110 :: u111 :: u112 :: u113 :: u114 :: u115 :: u116 :: u117 :: u118 :: u119 :: u120 :: u121 :: u122 :: u123 :: u124 :: u125 :: u126 :: u127 :: u128 :: u129 :: u130 :: u131 :: u132 :: u133 :: u134 :: u135 :: u136 :: u137 :: u138 :: u139 :: u140 :: u141 :: u142 :: u143 :: u144 :: u145 :: u146 :: u147 :: u148 :: u149 :: u150 :: u151 :: u152 :: u153 :: u154 :: u155 :: u156 :: u157 :: u158 :: u159 :: u160 :: u161 :: u162 :: u163 :: u164 :: u165 :: u166 :: u167 :: u168 :: u169 :: u170 :: u171 :: c172 :: c173 :: c174 :: c175 :: c176 :: c177 :: c178 :: c179 :: c180 :: c181 :: c182 :: c183 :: c184 :: c185 :: c186 :: c187 :: c188 :: c189 :: c190 :: c191 :: c192 :: c193 :: c194 :: c195 :: c196 :: c197 :: c198 :: c199 :: c200 :: c201 :: c202 :: c203 :: c204 :: c205 :: c206 :: c207 :: c208 :: c209 :: c210 :: c211 :: c212 :: c213 :: c214 :: c215 :: c216 :: c217 :: c218 :: c219 :: c220 :: c221 :: c222 :: c223 :: c224 :: c225 :: c226 :: c227 :: c228 :: c229 :: c230 :: c231 :: c232 :: c233 :: c234 :: c235 :: c236 :: c237 :: c238 :: c239 :: c240 :: c241 :: c242 :: c243 :: c244 :: c245 :: c246 :: c247 :: c248 :: c249 :: c250 :: c251 :: c252 :: c253 :: c254 :: c255 :: c256 :: c257 :: c258 :: c259 :: c260 :: c261 :: c262 :: c263 :: c264 :: c265 :: c266 :: c267 :: c268 :: c269 :: c270 :: c271 :: c272 :: c273 :: c274 :: []), []⟩ wx) :
    Code.wp Try.prog PTS_code Q ⟨List.toArray (c0 :: c1 :: c2 :: c3 :: c4 :: c5 :: c6 :: c7 :: c8 :: .slice pl X.length cl :: c10 :: .pointer (some ⟨ba, 0, none⟩) :: c12 :: .slice none 0 0 :: .slice none 0 0 :: .bool true :: c16 :: c17 :: c18 :: c19 :: c20 :: c21 :: c22 :: c23 :: c24 :: c25 :: c26 :: c27 :: c28 :: c29 :: c30 :: c31 :: c32 :: c33 :: c34 :: c35 :: c36 :: c37 :: c38 :: c39 :: c40 :: c41 :: c42 :: c43 :: c44 :: c45 :: c46 :: c47 :: c48 :: c49 :: c50 :: c51 :: c52 :: c53 :: c54 :: c55 :: c56 :: c57 :: c58 :: c59 :: c60 :: c61 :: c62 :: c63 :: c64 :: c65 :: c66 :: c67 :: c68 :: c69 :: c70 :: c71 :: c72 :: c73 :: c74 :: c75 :: c76 :: c77 :: c78 :: c79 :: c80 :: c81 :: c82 :: c83 :: c84 :: c85 :: c86 :: c87 :: c88 :: c89 :: c90 :: c91 :: c92 :: c93 :: c94 :: c95 :: c96 :: c97 :: c98 :: c99 :: c100 :: .int .i64 a.do_ :: c102 :: c103 :: c104 :: c105 :: c106 :: c107 :: c108 :: c109 :: c110 :: c111 :: c112 :: c113 :: c114 :: c115 :: c116 :: c117 :: c118 :: c119 :: c120 :: c121 :: c122 :: c123 :: c124 :: c125 :: c126 :: c127 :: c128 :: c129 :: c130 :: c131 :: c132 :: c133 :: c134 :: c135 :: c136 :: c137 :: c138 :: c139 :: c140 :: c141 :: c142 :: c143 :: c144 :: c145 :: c146 :: c147 :: c148 :: c149 :: c150 :: c151 :: c152 :: c153 :: c154 :: c155 :: c156 :: c157 :: c158 :: c159 :: c160 :: c161 :: c162 :: c163 :: c164 :: c165 :: c166 :: c167 :: c168 :: c169 :: c170 :: c171 :: c172 :: c173 :: c174 :: c175 :: c176 :: c177 :: c178 :: c179 :: c180 :: c181 :: c182 :: c183 :: c184 :: c185 :: c186 :: c187 :: c188 :: c189 :: c190 :: c191 :: c192 :: c193 :: c194 :: c195 :: c196 :: c197 :: c198 :: c199 :: c200 :: c201 :: c202 :: c203 :: c204 :: c205 :: c206 :: c207 :: c208 :: c209 :: c210 :: c211 :: c212 :: c213 :: c214 :: c215 :: c216 :: c217 :: c218 :: c219 :: c220 :: c221 :: c222 :: c223 :: c224 :: c225 :: c226 :: c227 :: c228 :: c229 :: c230 :: c231 :: c232 :: c233 :: c234 :: c235 :: c236 :: c237 :: c238 :: c239 :: c240 :: c241 :: c242 :: c243 :: c244 :: c245 :: c246 :: c247 :: c248 :: c249 :: c250 :: c251 :: c252 :: c253 :: c254 :: c255 :: c256 :: c257 :: c258 :: c259 :: c260 :: c261 :: c262 :: c263 :: c264 :: c265 :: c266 :: c267 :: c268 :: c269 :: c270 :: c271 :: c272 :: c273 :: c274 :: []), []⟩ w0 := by
  have HQ := Lib.hid hQ
  have HT := Lib.hid hT
  have HX := Lib.hid hX
  have HR := Lib.hid hR
  have HSm := Lib.hid (right_small hR)
  have HB := Lib.hid hA
  clear hQ hT hA hX hR
  conv => arg 2; whnf
  by_cases h0 : a.do_ = 0
  · have x0 : (a.do_ == 0) = true := by simp [h0]
    have RX := Lib.hid (act_ses (rangeAt_block HB.out))
    obtain ⟨t, c, hop⟩ : ∃ t c, sesOpen (cons X) a.x.s = (t, c) := ⟨_, _, rfl⟩
    have HRt := Lib.hid (show sesRight t = true by have := right_open HR.out a.x.s; rw [hop] at this; exact this)
    have HC := Lib.hid (sesopen_any _ X a.x w0 HT.out HSm.out HX.out t c hop)
    have HC2 := Lib.hid (fun W (B : Below w0.heap.size w0 W) => ropen_any _ X a.x W (HT.out.keep B) HSm.out (HX.out.keep B) t c hop)
    have x5 := beq_self_eq_true c
    clear h0 hop
    go_wp2_with (refine ldl RX rfl rfl rfl ?_)
    refine HC.out.mono ?_
    rintro e w4 ⟨p13, c13, P, hP, rfl, HO, B4⟩
    have HP := Lib.hid hP
    have R4 := Lib.hid (rangeAt_keep RX.out B4.out)
    clear hP RX HC
    go_wp2_with (refine ldl R4 rfl rfl rfl ?_)
    refine (HC2.out _ B4.out).mono ?_
    rintro e w5 ⟨p14, c14, R, hR, rfl, HO2, B5⟩
    have HR2 := Lib.hid hR
    clear hR R4 HC2
    go_wp2_with fail
    exact HQ.out p13 c13 P p14 c14 R _ (by rw [HP.out]; exact HRt.out) (by rw [HP.out, HR2.out]) (HO.out.keep B5.out) HO2.out.sess (chain B4.out B5.out) _ _ _ _ _ _ _ _ _ _ _ _ _ _ _ _ _ _ _ _ _ _ _ _ _ _ _ _ _ _ _ _ _ _ _ _ _ _ _ _ _ _ _ _ _ _ _ _ _ _ _ _ _ _ _ _ _ _ _ _ _ _ _ _ _ _ _ _ _ _ _ _ _ _ _ _ _ _ _ _ _ _
  · by_cases h1 : a.do_ = 1
    · have x0 : (a.do_ == 0) = false := by simp [h0]
      have x1 : (a.do_ == 1) = true := by simp [h1]
      have RX := Lib.hid (act_ses (rangeAt_block HB.out))
      obtain ⟨t, c, hop⟩ : ∃ t c, sesPut (cons X) a.x.s = (t, c) := ⟨_, _, rfl⟩
      have hop2 : sesPutR (cons X) a.x.s = (t, c) := by rw [put_same HR.out]; exact hop
      have HRt := Lib.hid (show sesRight t = true by have := right_put HR.out a.x.s; rw [hop] at this; exact this)
      have HC := Lib.hid (sesput_any _ X a.x w0 HT.out HSm.out HX.out t c hop)
      have HC2 := Lib.hid (fun W (B : Below w0.heap.size w0 W) => rput_any _ X a.x W (HT.out.keep B) HSm.out (HX.out.keep B) t c hop2)
      have x5 := beq_self_eq_true c
      clear h0 h1 hop hop2
      go_wp2_with (refine ldl RX rfl rfl rfl ?_)
      refine HC.out.mono ?_
      rintro e w4 ⟨p13, c13, P, hP, rfl, HO, B4⟩
      have HP := Lib.hid hP
      have R4 := Lib.hid (rangeAt_keep RX.out B4.out)
      clear hP RX HC
      go_wp2_with (refine ldl R4 rfl rfl rfl ?_)
      refine (HC2.out _ B4.out).mono ?_
      rintro e w5 ⟨p14, c14, R, hR, rfl, HO2, B5⟩
      have HR2 := Lib.hid hR
      clear hR R4 HC2
      go_wp2_with fail
      exact HQ.out p13 c13 P p14 c14 R _ (by rw [HP.out]; exact HRt.out) (by rw [HP.out, HR2.out]) (HO.out.keep B5.out) HO2.out.sess (chain B4.out B5.out) _ _ _ _ _ _ _ _ _ _ _ _ _ _ _ _ _ _ _ _ _ _ _ _ _ _ _ _ _ _ _ _ _ _ _ _ _ _ _ _ _ _ _ _ _ _ _ _ _ _ _ _ _ _ _ _ _ _ _ _ _ _ _ _ _ _ _ _ _ _ _ _ _ _ _ _ _ _ _ _ _ _
    · have x0 : (a.do_ == 0) = false := by simp [h0]
      have x1 : (a.do_ == 1) = false := by simp [h1]
      have g1 := act_id (rangeAt_block HB.out)
      obtain ⟨t, c, hop⟩ : ∃ t c, sesClose (cons X) a.id = (t, c) := ⟨_, _, rfl⟩
      have hop2 : sesCloseR (cons X) a.id = (t, c) := by rw [close_same HR.out]; exact hop
      have HRt := Lib.hid (show sesRight t = true by have := right_close HR.out a.id; rw [hop] at this; exact this)
      have HC := Lib.hid (sesclose_any _ X a.id w0 HT.out HSm.out t c hop)
      have HC2 := Lib.hid (fun W (B : Below w0.heap.size w0 W) => rclose_any _ X a.id W (HT.out.keep B) HSm.out t c hop2)
      have x5 := beq_self_eq_true c
      clear h0 h1 hop hop2
      go_wp2_with fail
      refine HC.out.mono ?_
      rintro e w4 ⟨p13, c13, P, hP, rfl, HO, B4⟩
      have HP := Lib.hid hP
      have g2 := act_id (rangeAt_block (keepb HB.out B4.out))
      clear hP HC g1
      go_wp2_with fail
      refine (HC2.out _ B4.out).mono ?_
      rintro e w5 ⟨p14, c14, R, hR, rfl, HO2, B5⟩
      have HR2 := Lib.hid hR
      clear hR HC2 g2
      go_wp2_with fail
      exact HQ.out p13 c13 P p14 c14 R _ (by rw [HP.out]; exact HRt.out) (by rw [HP.out, HR2.out]) (HO.out.keep B5.out) HO2.out.sess (chain B4.out B5.out) _ _ _ _ _ _ _ _ _ _ _ _ _ _ _ _ _ _ _ _ _ _ _ _ _ _ _ _ _ _ _ _ _ _ _ _ _ _ _ _ _ _ _ _ _ _ _ _ _ _ _ _ _ _ _ _ _ _ _ _ _ _ _ _ _ _ _ _ _ _ _ _ _ _ _ _ _ _ _ _ _ _
end Go.Proofs.Ytlmkkfigmoefdaa.K
