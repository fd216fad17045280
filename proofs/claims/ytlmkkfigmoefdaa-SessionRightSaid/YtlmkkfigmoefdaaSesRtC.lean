/-
  SessionRight: what is asked behind each act (region 32).
-/
import Derived.Test.YtlmkkfigmoefdaaSesPlain3
import Derived.Test.YtlmkkfigmoefdaaSesAct
import Derived.Test.YtlmkkfigmoefdaaSesOne
import Derived.Test.YtlmkkfigmoefdaaSes13
import Derived.Test.YtlmkkfigmoefdaaBox
import Derived.Deep.DeepCutAuto
import Derived.Deep.CutBlock
import Derived.Deep.Light
set_option linter.unusedVariables false
set_option linter.unusedSimpArgs false
namespace Go.Proofs.Ytlmkkfigmoefdaa.K
open Go Go.RowKit Nj

noncomputable def PRC_code : Code := ((Try.f4.body.bind (findR 32)).getD .skip)

set_option maxRecDepth 100000 in
set_option maxHeartbeats 8000000 in
theorem rchk_all (pl p4 : Option Addr) (cl cp4 ba b20 : Nat) (L U : List Sv) (a : Sa) (ok has : Bool) (y : Sv) (w0 : World) (c1 c2 c3 c4 c5 c6 c7 c9 c10 c11 c14 c15 c16 c17 c18 c19 c22 c23 c24 c25 c26 c27 c28 c29 c30 c31 c32 c33 c34 c35 c36 c37 c38 c39 c40 c41 c42 c43 c44 c45 c46 c47 c48 c49 c50 c51 c52 c53 c54 c55 c56 c57 c58 c59 c60 c61 c62 c63 c64 c65 c66 c67 c68 c69 c70 c71 c72 c73 c74 c75 c76 c77 c78 c79 c80 c81 c82 c83 c84 c85 c86 c87 c88 c89 c90 c91 c92 c93 c94 c95 c96 c97 c98 c99 c100 c101 c102 c103 c104 c105 c106 c107 c108 c109 c110 c111 c112 c113 c114 c115 c116 c117 c118 c119 c120 c121 c122 c123 c124 c125 c126 c127 c128 c129 c130 c131 c132 c133 c134 c135 c136 c137 c138 c139 c140 c141 c142 c143 c144 c145 c146 c147 c148 c149 c150 c151 c152 c153 c154 c155 c156 c157 c158 c159 c160 c161 c162 c163 c164 c165 c166 c167 c168 c169 c170 c171 c172 c173 c174 c175 c176 c177 c178 c179 c180 c181 c182 c183 c184 c185 c186 c187 c188 c189 : Value) (Q : Exit → Act → World → Prop) (hL : Sess w0 (.slice pl L.length cl) L) (hU : Sess w0 (.slice p4 U.length cp4) U) (hA : w0.heap[ba]? = some (.cells a.cells.toArray 40)) (hX : Sok w0 a.x)
    (h20 : w0.heap[b20]? = some (.cells y.cells.toArray 38)) (hY : Sok w0 y) (hAf : After (cons L) a.x.s a.do_ (cons U) ok) (hF : sesFind (cons U) a.x.s.id = (y.s, has))
    (hQ : ∀ wx : World, Below w0.heap.size w0 wx → ∀ (u147 u148 u149 u150 u151 u152 u153 u154 u155 u156 u157 u158 u159 u160 u161 u162 u163 u164 u165 u166 u167 u168 u169 u170 u171 u172 u173 u174 u175 u176 u177 u178 u179 u180 u181 u182 u183 u184 u185 u186 : Value), Q .normal ⟨List.toArray (.slice pl L.length cl :: c1 :: c2 :: c3 :: c4 :: c5 :: c6 :: c7 :: .pointer (some ⟨ba, 0, none⟩) :: c9 :: c10 :: c11 :: .slice p4 U.length cp4 :: .bool ok :: c14 :: c15 :: c16 :: c17 :: c18 :: c19 :: .pointer (some ⟨b20, 0, none⟩) :: .bool has :: c22 :: c23 :: c24 :: c25 :: c26 :: c27 :: c28 :: c29 :: c30 :: c31 :: c32 :: c33 :: c34 :: c35 :: c36 :: c37 :: c38 :: c39 :: c40 :: c41 :: c42 :: c43 :: c44 :: c45 :: c46 :: c47 :: c48 :: c49 :: c50 :: c51 :: c52 :: c53 :: c54 :: c55 :: c56 :: c57 :: c58 :: c59 :: c60 :: c61 :: c62 :: c63 :: c64 :: c65 :: c66 :: c67 :: c68 :: c69 :: c70 :: c71 :: c72 :: c73 :: c74 :: c75 :: c76 :: c77 :: c78 :: c79 :: c80 :: c81 :: c82 :: c83 :: c84 :: c85 :: c86 :: c87 :: c88 :: c89 :: c90 :: c91 :: c92 :: c93 :: c94 :: c95 :: c96 :: c97 :: c98 :: c99 :: c100 :: c101 :: c102 :: c103 :: c104 :: c105 :: c106 :: c107 :: c108 :: c109 :: c110 :: c111 :: c112 :: c113 :: c114 :: c115 :: c116 :: c117 :: c118 :: c119 :: c120 :: c121 :: c122 :: c123 :: c124 :: c125 :: c126 :: c127 :: c128 :: c129 :: c130 :: c131 :: c132 :: c133 :: c134 :: c135 :: c136 :: c137 :: c138 :: c139 :: c140 :: c141 :: c142 :: c143 :: c144 :: c145 :: c146 :: u147 :: u148 :: u149 :: u150 :: u151 :: u152 :: u153 :: u154 :: u155 :: u156 :: u157 :: u158 :: u159 :: u160 :: u161 :: u162 :: u163 :: u164 :: u165 :: u166 :: u167 :: u168 :: u169 :: u170 :: u171 :: u172 :: u173 :: u174 :: u175 :: u176 :: u177 :: u178 :: u179 :: u180 :: u181 :: u182 :: u183 :: u184 :: u185 :: u186 :: .bool false :: c188 :: c189 :: []), []⟩ wx) :
    Code.wp Try.prog PRC_code Q ⟨List.toArray (.slice pl L.length cl :: c1 :: c2 :: c3 :: c4 :: c5 :: c6 :: c7 :: .pointer (some ⟨ba, 0, none⟩) :: c9 :: c10 :: c11 :: .slice p4 U.length cp4 :: .bool ok :: c14 :: c15 :: c16 :: c17 :: c18 :: c19 :: .pointer (some ⟨b20, 0, none⟩) :: .bool has :: c22 :: c23 :: c24 :: c25 :: c26 :: c27 :: c28 :: c29 :: c30 :: c31 :: c32 :: c33 :: c34 :: c35 :: c36 :: c37 :: c38 :: c39 :: c40 :: c41 :: c42 :: c43 :: c44 :: c45 :: c46 :: c47 :: c48 :: c49 :: c50 :: c51 :: c52 :: c53 :: c54 :: c55 :: c56 :: c57 :: c58 :: c59 :: c60 :: c61 :: c62 :: c63 :: c64 :: c65 :: c66 :: c67 :: c68 :: c69 :: c70 :: c71 :: c72 :: c73 :: c74 :: c75 :: c76 :: c77 :: c78 :: c79 :: c80 :: c81 :: c82 :: c83 :: c84 :: c85 :: c86 :: c87 :: c88 :: c89 :: c90 :: c91 :: c92 :: c93 :: c94 :: c95 :: c96 :: c97 :: c98 :: c99 :: c100 :: c101 :: c102 :: c103 :: c104 :: c105 :: c106 :: c107 :: c108 :: c109 :: c110 :: c111 :: c112 :: c113 :: c114 :: c115 :: c116 :: c117 :: c118 :: c119 :: c120 :: c121 :: c122 :: c123 :: c124 :: c125 :: c126 :: c127 :: c128 :: c129 :: c130 :: c131 :: c132 :: c133 :: c134 :: c135 :: c136 :: c137 :: c138 :: c139 :: c140 :: c141 :: c142 :: c143 :: c144 :: c145 :: c146 :: c147 :: c148 :: c149 :: c150 :: c151 :: c152 :: c153 :: c154 :: c155 :: c156 :: c157 :: c158 :: c159 :: c160 :: c161 :: c162 :: c163 :: c164 :: c165 :: c166 :: c167 :: c168 :: c169 :: c170 :: c171 :: c172 :: c173 :: c174 :: c175 :: c176 :: c177 :: c178 :: c179 :: c180 :: c181 :: c182 :: c183 :: c184 :: c185 :: c186 :: c187 :: c188 :: c189 :: []), []⟩ w0 := by
  have HQ := Lib.hid hQ
  have HL := Lib.hid hL
  have HU := Lib.hid hU
  have HX := Lib.hid hX
  have HY := Lib.hid hY
  have HB := Lib.hid hA
  have H20 := Lib.hid h20
  have HF := Lib.hid hF
  have HAf := Lib.hid hAf
  have BZ := Lib.hid (Below.refl w0.heap.size w0)
  have HC1 := Lib.hid (fun W (B : Below w0.heap.size w0 W) => sesright_any _ U W (HU.out.keep B))
  rw [hAf.1] at HC1
  clear hQ hL hU hA hX h20 hY hAf hF
  conv => arg 2; whnf
  cases ok with
  | false =>
    have HC2 := Lib.hid (fun W (B : Below w0.heap.size w0 W) => sesame_any _ _ U L true W (HU.out.keep B) (HL.out.keep B) (by rw [HAf.out.2.1 rfl]; simp))
    go_wp2_with (first
      | (go_at_call 10; refine (HC1.out _ BZ.out).mono ?_; rintro e wa ⟨rfl, Ba⟩; replace BZ := Lib.hid (chain BZ.out Ba.out); clear HC1 Ba)
      | (go_at_call 30; refine (HC2.out _ BZ.out).mono ?_; rintro e wb ⟨rfl, Bb⟩; replace BZ := Lib.hid (chain BZ.out Bb.out); clear HC2 Bb))
    exact HQ.out _ BZ.out _ _ _ _ _ _ _ _ _ _ _ _ _ _ _ _ _ _ _ _ _ _ _ _ _ _ _ _ _ _ _ _ _ _ _ _ _ _ _ _
  | true =>
    have HFi := Lib.hid (HF.out.symm.trans (HAf.out.2.2 rfl))
    by_cases h0 : a.do_ = 0
    · have x0 : (a.do_ == 0) = true := by simp [h0]
      have e1 : has = true := by have := HFi.out; rw [if_pos (Or.inl h0)] at this; exact congrArg Prod.snd this
      have e2 : y.s = a.x.s := by have := HFi.out; rw [if_pos (Or.inl h0)] at this; exact congrArg Prod.fst this
      subst e1
      have HOn := Lib.hid (fun W (B : Below w0.heap.size w0 W) => rone_any y a.x W (HY.out.keep B) (HX.out.keep B))
      rw [show decide (y.s = a.x.s) = true by rw [e2]; simp] at HOn
      clear h0 e2
      go_wp2_with (first
        | (go_at_call 10; refine (HC1.out _ BZ.out).mono ?_; rintro e wa ⟨rfl, Ba⟩; replace BZ := Lib.hid (chain BZ.out Ba.out); clear HC1 Ba; have g0 := act_do (rangeAt_block (keepb HB.out BZ.out)); have R20 := Lib.hid (rangeAt_block (keepb H20.out BZ.out)); have RX := Lib.hid (act_ses (rangeAt_block (keepb HB.out BZ.out))))
        | (refine ldg R20 rfl rfl rfl ?_; clear R20)
        | (refine ldg RX rfl rfl rfl ?_; clear RX)
        | (go_at_call 23; refine (HOn.out _ BZ.out).mono ?_; rintro e wb ⟨rfl, Bb⟩; replace BZ := Lib.hid (chain BZ.out Bb.out); clear HOn Bb))
      exact HQ.out _ BZ.out _ _ _ _ _ _ _ _ _ _ _ _ _ _ _ _ _ _ _ _ _ _ _ _ _ _ _ _ _ _ _ _ _ _ _ _ _ _ _ _
    · by_cases h1 : a.do_ = 1
      · have x0 : (a.do_ == 0) = false := by simp [h0]
        have x1 : (a.do_ == 1) = true := by simp [h1]
        have e1 : has = true := by have := HFi.out; rw [if_pos (Or.inr h1)] at this; exact congrArg Prod.snd this
        have e2 : y.s = a.x.s := by have := HFi.out; rw [if_pos (Or.inr h1)] at this; exact congrArg Prod.fst this
        subst e1
        have HOn := Lib.hid (fun W (B : Below w0.heap.size w0 W) => rone_any y a.x W (HY.out.keep B) (HX.out.keep B))
        rw [show decide (y.s = a.x.s) = true by rw [e2]; simp] at HOn
        clear h0 h1 e2
        go_wp2_with (first
          | (go_at_call 10; refine (HC1.out _ BZ.out).mono ?_; rintro e wa ⟨rfl, Ba⟩; replace BZ := Lib.hid (chain BZ.out Ba.out); clear HC1 Ba; have g0 := act_do (rangeAt_block (keepb HB.out BZ.out)); have R20 := Lib.hid (rangeAt_block (keepb H20.out BZ.out)); have RX := Lib.hid (act_ses (rangeAt_block (keepb HB.out BZ.out))))
          | (refine ldg R20 rfl rfl rfl ?_; clear R20)
          | (refine ldg RX rfl rfl rfl ?_; clear RX)
          | (go_at_call 23; refine (HOn.out _ BZ.out).mono ?_; rintro e wb ⟨rfl, Bb⟩; replace BZ := Lib.hid (chain BZ.out Bb.out); clear HOn Bb))
        exact HQ.out _ BZ.out _ _ _ _ _ _ _ _ _ _ _ _ _ _ _ _ _ _ _ _ _ _ _ _ _ _ _ _ _ _ _ _ _ _ _ _ _ _ _ _
      · have x0 : (a.do_ == 0) = false := by simp [h0]
        have x1 : (a.do_ == 1) = false := by simp [h1]
        have e1 : has = false := by have := HFi.out; rw [if_neg (by simp [h0, h1])] at this; exact congrArg Prod.snd this
        subst e1
        clear h0 h1
        go_wp2_with (first
          | (go_at_call 10; refine (HC1.out _ BZ.out).mono ?_; rintro e wa ⟨rfl, Ba⟩; replace BZ := Lib.hid (chain BZ.out Ba.out); clear HC1 Ba; have g0 := act_do (rangeAt_block (keepb HB.out BZ.out))))
        exact HQ.out _ BZ.out _ _ _ _ _ _ _ _ _ _ _ _ _ _ _ _ _ _ _ _ _ _ _ _ _ _ _ _ _ _ _ _ _ _ _ _ _ _ _ _
end Go.Proofs.Ytlmkkfigmoefdaa.K
