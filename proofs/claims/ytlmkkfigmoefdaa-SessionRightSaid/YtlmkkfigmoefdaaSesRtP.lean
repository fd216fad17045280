/-
  SessionRight: the switch (block 2), act by act.
-/
import Derived.Test.YtlmkkfigmoefdaaSesPlain3
import Derived.Test.YtlmkkfigmoefdaaSesAct
import Derived.Test.YtlmkkfigmoefdaaSes11
import Derived.Test.YtlmkkfigmoefdaaSes12
import Derived.Test.YtlmkkfigmoefdaaBox
import Derived.Deep.DeepCutAuto
import Derived.Deep.CutBlock
import Derived.Deep.Light
set_option linter.unusedVariables false
set_option linter.unusedSimpArgs false
namespace Go.Proofs.Ytlmkkfigmoefdaa.K
open Go Go.RowKit Nj

noncomputable def PRS_code : Code := ((Try.f4.body.bind (findB 2)).getD .skip)

set_option maxRecDepth 100000 in
set_option maxHeartbeats 8000000 in
theorem ract_all (pl : Option Addr) (cl ba : Nat) (L : List Sv) (a : Sa) (fok : Bool) (w0 : World) (c1 c2 c3 c4 c5 c6 c7 c10 c14 c15 c16 c17 c18 c19 c20 c21 c22 c23 c24 c25 c26 c27 c28 c29 c30 c31 c32 c33 c34 c35 c36 c37 c38 c39 c40 c41 c42 c43 c44 c45 c46 c47 c48 c49 c50 c51 c52 c53 c54 c55 c56 c57 c58 c60 c61 c62 c63 c64 c65 c66 c67 c68 c69 c70 c71 c72 c73 c74 c75 c76 c77 c78 c79 c80 c81 c82 c83 c84 c85 c86 c87 c88 c89 c90 c91 c92 c93 c94 c95 c96 c97 c98 c99 c100 c101 c102 c103 c104 c105 c106 c107 c108 c109 c110 c111 c112 c113 c114 c115 c116 c117 c118 c119 c120 c121 c122 c123 c124 c125 c126 c127 c128 c129 c130 c131 c132 c133 c134 c135 c136 c137 c138 c139 c140 c141 c142 c143 c144 c145 c146 c147 c148 c149 c150 c151 c152 c153 c154 c155 c156 c157 c158 c159 c160 c161 c162 c163 c164 c165 c166 c167 c168 c169 c170 c171 c172 c173 c174 c175 c176 c177 c178 c179 c180 c181 c182 c183 c184 c185 c186 c187 c188 c189 : Value) (Q : Exit → Act → World → Prop) (hT : Sess w0 (.slice pl L.length cl) L) (hA : w0.heap[ba]? = some (.cells a.cells.toArray 40)) (hX : Sok w0 a.x) (hR : sesRight (cons L) = true) (hF : (sesFind (cons L) a.x.s.id).2 = fok)
    (hQ : ∀ (p4 : Option Addr) (c4 : Nat) (U : List Sv) (ok : Bool) (wx : World), After (cons L) a.x.s a.do_ (cons U) ok → Sess wx (.slice p4 U.length c4) U → Below w0.heap.size w0 wx → ∀ (u4 u14 u15 u16 u17 u18 u19 u60 u61 u62 u63 u64 u65 u66 u67 u68 u69 u70 u71 u72 u73 u74 u75 u76 u77 u78 u79 u80 u81 u82 u83 u84 u85 u86 u87 u88 u89 u90 u91 u92 u93 u94 u95 u96 u97 u98 u99 u100 u101 u102 u103 u104 u105 u106 u107 u108 u109 u110 u111 u112 u113 u114 u115 u116 u117 u118 u119 u120 u121 u122 u123 u124 u125 u126 u127 u128 u129 u130 u131 u132 u133 u134 u135 u136 u137 u138 u139 u140 : Value), Q .normal ⟨List.toArray (.slice pl L.length cl :: c1 :: c2 :: c3 :: u4 :: c5 :: c6 :: c7 :: .pointer (some ⟨ba, 0, none⟩) :: .int .i64 a.x.s.id :: c10 :: .bool fok :: .slice p4 U.length c4 :: .bool ok :: u14 :: u15 :: u16 :: u17 :: u18 :: u19 :: c20 :: c21 :: c22 :: c23 :: c24 :: c25 :: c26 :: c27 :: c28 :: c29 :: c30 :: c31 :: c32 :: c33 :: c34 :: c35 :: c36 :: c37 :: c38 :: c39 :: c40 :: c41 :: c42 :: c43 :: c44 :: c45 :: c46 :: c47 :: c48 :: c49 :: c50 :: c51 :: c52 :: c53 :: c54 :: c55 :: c56 :: c57 :: c58 :: .int .i64 a.do_ :: u60 :: u61 :: u62 :: u63 :: u64 :: u65 :: u66 :: u67 :: u68 :: u69 :: u70 :: u71 :: u72 :: u73 :: u74 :: u75 :: u76 :: u77 :: u78 :: u79 :: u80 :: u81 :: u82 :: u83 :: u84 :: u85 :: u86 :: u87 :: u88 :: u89 :: u90 :: u91 :: u92 :: u93 :: u94 :: u95 :: u96 :: u97 :: u98 :: u99 :: u100 :: u101 :: u102 :: u103 :: u104 :: u105 :: u106 :: u107 :: u108 :: u109 :: u110 :: u111 :: u112 :: u113 :: u114 :: u115 :: u116 :: u117 :: u118 :: u119 :: u120 :: u121 :: u122 :: u123 :: u124 :: u125 :: u126 :: u127 :: u128 :: u129 :: u130 :: u131 :: u132 :: u133 :: u134 :: u135 :: u136 :: u137 :: u138 :: u139 :: u140 :: c141 :: c142 :: c143 :: c144 :: c145 :: c146 :: c147 :: c148 :: c149 :: c150 :: c151 :: c152 :: c153 :: c154 :: c155 :: c156 :: c157 :: c158 :: c159 :: c160 :: c161 :: c162 :: c163 :: c164 :: c165 :: c166 :: c167 :: c168 :: c169 :: c170 :: c171 :: c172 :: c173 :: c174 :: c175 :: c176 :: c177 :: c178 :: c179 :: c180 :: c181 :: c182 :: c183 :: c184 :: c185 :: c186 :: c187 :: c188 :: c189 :: []), []⟩ wx) :
    Code.wp Try.prog PRS_code Q ⟨List.toArray (.slice pl L.length cl :: c1 :: c2 :: c3 :: c4 :: c5 :: c6 :: c7 :: .pointer (some ⟨ba, 0, none⟩) :: .int .i64 a.x.s.id :: c10 :: .bool fok :: .slice pl L.length cl :: .bool false :: c14 :: c15 :: c16 :: c17 :: c18 :: c19 :: c20 :: c21 :: c22 :: c23 :: c24 :: c25 :: c26 :: c27 :: c28 :: c29 :: c30 :: c31 :: c32 :: c33 :: c34 :: c35 :: c36 :: c37 :: c38 :: c39 :: c40 :: c41 :: c42 :: c43 :: c44 :: c45 :: c46 :: c47 :: c48 :: c49 :: c50 :: c51 :: c52 :: c53 :: c54 :: c55 :: c56 :: c57 :: c58 :: .int .i64 a.do_ :: c60 :: c61 :: c62 :: c63 :: c64 :: c65 :: c66 :: c67 :: c68 :: c69 :: c70 :: c71 :: c72 :: c73 :: c74 :: c75 :: c76 :: c77 :: c78 :: c79 :: c80 :: c81 :: c82 :: c83 :: c84 :: c85 :: c86 :: c87 :: c88 :: c89 :: c90 :: c91 :: c92 :: c93 :: c94 :: c95 :: c96 :: c97 :: c98 :: c99 :: c100 :: c101 :: c102 :: c103 :: c104 :: c105 :: c106 :: c107 :: c108 :: c109 :: c110 :: c111 :: c112 :: c113 :: c114 :: c115 :: c116 :: c117 :: c118 :: c119 :: c120 :: c121 :: c122 :: c123 :: c124 :: c125 :: c126 :: c127 :: c128 :: c129 :: c130 :: c131 :: c132 :: c133 :: c134 :: c135 :: c136 :: c137 :: c138 :: c139 :: c140 :: c141 :: c142 :: c143 :: c144 :: c145 :: c146 :: c147 :: c148 :: c149 :: c150 :: c151 :: c152 :: c153 :: c154 :: c155 :: c156 :: c157 :: c158 :: c159 :: c160 :: c161 :: c162 :: c163 :: c164 :: c165 :: c166 :: c167 :: c168 :: c169 :: c170 :: c171 :: c172 :: c173 :: c174 :: c175 :: c176 :: c177 :: c178 :: c179 :: c180 :: c181 :: c182 :: c183 :: c184 :: c185 :: c186 :: c187 :: c188 :: c189 :: []), []⟩ w0 := by
  have HQ := Lib.hid hQ
  have HT := Lib.hid hT
  have HX := Lib.hid hX
  have HR := Lib.hid hR
  have HF := Lib.hid hF
  have RX := Lib.hid (act_ses (rangeAt_block hA))
  have HSm := Lib.hid (right_small hR)
  have hl32 : L.length ≤ 32 := by have := (right_parts hR).1; simpa [cons] using this
  have hLn := Lib.hid (show (cons L).length = L.length by simp [cons])
  clear hQ hT hA hX hR hF
  conv => arg 2; whnf
  by_cases h0 : a.do_ = 0
  · have HD := Lib.hid h0
    have x0 : (a.do_ == 0) = true := by simp [h0]
    obtain ⟨t, c, hop⟩ : ∃ t c, sesOpen (cons L) a.x.s = (t, c) := ⟨_, _, rfl⟩
    have HLaw := Lib.hid (after_open HR.out hop)
    have HC := Lib.hid (sesopen_any _ L a.x w0 HT.out HSm.out HX.out t c hop)
    clear h0 hop
    go_wp2_with (refine ldl RX rfl rfl rfl ?_)
    refine HC.out.mono ?_
    rintro e w4 ⟨p4, c4, U, hU, rfl, HO, B4⟩
    have HS := Lib.hid HO.out.sess
    have HUl := Lib.hid (show U.length = t.length by rw [← hU]; simp [cons])
    have HAf := Lib.hid (show ∀ ok, decide (c = 0) = ok → After (cons L) a.x.s a.do_ (cons U) ok by rintro ok rfl; rw [hU, HD.out]; exact HLaw.out.1)
    clear HC HO hU RX
    have hc7 := HLaw.out.2.2
    by_cases hc0 : c = 0
    · subst hc0
      obtain ⟨q1, q2⟩ := HLaw.out.2.1 rfl
      have e1 : fok = false := by rw [← HF.out]; exact q1
      subst e1
      have u1 : (U.length : Int) = (L.length : Int) + 1 := by have h1 := HUl.out; have h2 := hLn.out; omega
      have x1 : ((U.length : Int) != (L.length : Int) + 1) = false := by rw [u1]; simp
      have x2 : IntKind.i64.wrap ((L.length : Int) + 1) = (L.length : Int) + 1 := by rw [IntKind.wrap_i64]; omega
      clear u1 q1 q2 hc7
      go_wp2_with fail
      exact HQ.out p4 c4 U true _ (HAf.out true rfl) HS.out B4.out _ _ _ _ _ _ _ _ _ _ _ _ _ _ _ _ _ _ _ _ _ _ _ _ _ _ _ _ _ _ _ _ _ _ _ _ _ _ _ _ _ _ _ _ _ _ _ _ _ _ _ _ _ _ _ _ _ _ _ _ _ _ _ _ _ _ _ _ _ _ _ _ _ _ _ _ _ _ _ _ _ _ _ _ _ _ _ _
    · by_cases hc1 : c = 1
      · subst hc1
        clear hc7
        go_wp2_with fail
        exact HQ.out p4 c4 U false _ (HAf.out false rfl) HS.out B4.out _ _ _ _ _ _ _ _ _ _ _ _ _ _ _ _ _ _ _ _ _ _ _ _ _ _ _ _ _ _ _ _ _ _ _ _ _ _ _ _ _ _ _ _ _ _ _ _ _ _ _ _ _ _ _ _ _ _ _ _ _ _ _ _ _ _ _ _ _ _ _ _ _ _ _ _ _ _ _ _ _ _ _ _ _ _ _ _
      · have hc7' : c = 7 := by omega
        subst hc7'
        clear hc7
        go_wp2_with fail
        exact HQ.out p4 c4 U false _ (HAf.out false rfl) HS.out B4.out _ _ _ _ _ _ _ _ _ _ _ _ _ _ _ _ _ _ _ _ _ _ _ _ _ _ _ _ _ _ _ _ _ _ _ _ _ _ _ _ _ _ _ _ _ _ _ _ _ _ _ _ _ _ _ _ _ _ _ _ _ _ _ _ _ _ _ _ _ _ _ _ _ _ _ _ _ _ _ _ _ _ _ _ _ _ _ _
  · by_cases h1 : a.do_ = 1
    · have HD := Lib.hid h1
      have x0 : (a.do_ == 0) = false := by simp [h0]
      have x1 : (a.do_ == 1) = true := by simp [h1]
      obtain ⟨t, c, hop⟩ : ∃ t c, sesPut (cons L) a.x.s = (t, c) := ⟨_, _, rfl⟩
      have HLaw := Lib.hid (after_put HR.out hop)
      have HC := Lib.hid (sesput_any _ L a.x w0 HT.out HSm.out HX.out t c hop)
      clear h0 h1 hop
      go_wp2_with (refine ldl RX rfl rfl rfl ?_)
      refine HC.out.mono ?_
      rintro e w4 ⟨p4, c4, U, hU, rfl, HO, B4⟩
      have HS := Lib.hid HO.out.sess
      have HUl := Lib.hid (show U.length = t.length by rw [← hU]; simp [cons])
      have HAf := Lib.hid (show After (cons L) a.x.s a.do_ (cons U) c by rw [hU, HD.out]; exact HLaw.out.1)
      clear HC HO hU RX
      cases c with
      | true =>
        have e1 : fok = true := by rw [← HF.out]; exact HLaw.out.2.1 rfl
        subst e1
        have u1 : (U.length : Int) = (L.length : Int) := by have h1 := HUl.out; have h2 := hLn.out; have h3 := HLaw.out.2.2; omega
        have x2 : ((U.length : Int) != (L.length : Int)) = false := by rw [u1]; simp
        clear u1
        go_wp2_with fail
        exact HQ.out p4 c4 U true _ HAf.out HS.out B4.out _ _ _ _ _ _ _ _ _ _ _ _ _ _ _ _ _ _ _ _ _ _ _ _ _ _ _ _ _ _ _ _ _ _ _ _ _ _ _ _ _ _ _ _ _ _ _ _ _ _ _ _ _ _ _ _ _ _ _ _ _ _ _ _ _ _ _ _ _ _ _ _ _ _ _ _ _ _ _ _ _ _ _ _ _ _ _ _
      | false =>
        go_wp2_with fail
        exact HQ.out p4 c4 U false _ HAf.out HS.out B4.out _ _ _ _ _ _ _ _ _ _ _ _ _ _ _ _ _ _ _ _ _ _ _ _ _ _ _ _ _ _ _ _ _ _ _ _ _ _ _ _ _ _ _ _ _ _ _ _ _ _ _ _ _ _ _ _ _ _ _ _ _ _ _ _ _ _ _ _ _ _ _ _ _ _ _ _ _ _ _ _ _ _ _ _ _ _ _ _
    · have x0 : (a.do_ == 0) = false := by simp [h0]
      have x1 : (a.do_ == 1) = false := by simp [h1]
      obtain ⟨t, c, hop⟩ : ∃ t c, sesClose (cons L) a.x.s.id = (t, c) := ⟨_, _, rfl⟩
      have HLaw := Lib.hid (after_close HR.out h0 h1 hop)
      have HC := Lib.hid (sesclose_any _ L a.x.s.id w0 HT.out HSm.out t c hop)
      clear h0 h1 hop
      go_wp2_with fail
      refine HC.out.mono ?_
      rintro e w4 ⟨p4, c4, U, hU, rfl, HO, B4⟩
      have HS := Lib.hid HO.out.sess
      have HUl := Lib.hid (show U.length = t.length by rw [← hU]; simp [cons])
      have HAf := Lib.hid (show After (cons L) a.x.s a.do_ (cons U) c by rw [hU]; exact HLaw.out.1)
      clear HC HO hU RX
      have e1 : fok = c := by rw [← HF.out]; exact HLaw.out.2.1.symm
      subst e1
      cases fok with
      | true =>
        have u1 : (U.length : Int) = (L.length : Int) - 1 := by have h1 := HUl.out; have h2 := hLn.out; have h3 := HLaw.out.2.2 rfl; omega
        have x2 : ((U.length : Int) != (L.length : Int) - 1) = false := by rw [u1]; simp
        have x3 : IntKind.i64.wrap ((L.length : Int) - 1) = (L.length : Int) - 1 := by rw [IntKind.wrap_i64]; omega
        clear u1
        go_wp2_with fail
        exact HQ.out p4 c4 U true _ HAf.out HS.out B4.out _ _ _ _ _ _ _ _ _ _ _ _ _ _ _ _ _ _ _ _ _ _ _ _ _ _ _ _ _ _ _ _ _ _ _ _ _ _ _ _ _ _ _ _ _ _ _ _ _ _ _ _ _ _ _ _ _ _ _ _ _ _ _ _ _ _ _ _ _ _ _ _ _ _ _ _ _ _ _ _ _ _ _ _ _ _ _ _
      | false =>
        go_wp2_with fail
        exact HQ.out p4 c4 U false _ HAf.out HS.out B4.out _ _ _ _ _ _ _ _ _ _ _ _ _ _ _ _ _ _ _ _ _ _ _ _ _ _ _ _ _ _ _ _ _ _ _ _ _ _ _ _ _ _ _ _ _ _ _ _ _ _ _ _ _ _ _ _ _ _ _ _ _ _ _ _ _ _ _ _ _ _ _ _ _ _ _ _ _ _ _ _ _ _ _ _ _ _ _ _
end Go.Proofs.Ytlmkkfigmoefdaa.K
