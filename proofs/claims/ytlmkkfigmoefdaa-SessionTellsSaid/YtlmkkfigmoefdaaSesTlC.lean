/-
  SessionTells: what is asked behind each act (region 38).
-/
import Derived.Test.YtlmkkfigmoefdaaSesOne
import Derived.Test.YtlmkkfigmoefdaaSesR2
import Derived.Test.YtlmkkfigmoefdaaSesR4
import Derived.Test.YtlmkkfigmoefdaaSes9
import Derived.Test.YtlmkkfigmoefdaaSes6
import Derived.Test.YtlmkkfigmoefdaaSesQ
import Derived.Test.YtlmkkfigmoefdaaBox
import Derived.Deep.DeepCutAuto
import Derived.Deep.CutBlock
import Derived.Deep.Light
set_option linter.unusedVariables false
set_option linter.unusedSimpArgs false
namespace Go.Proofs.Ytlmkkfigmoefdaa.K
open Go Go.RowKit Nj

noncomputable def PTC_code : Code := ((Try.f3.body.bind (findR 38)).getD .skip)

set_option maxRecDepth 100000 in
set_option maxHeartbeats 8000000 in
theorem tchk_all (us : Int) (px pw pp pr : Option Addr) (cx cw cp cr b28 b30 : Nat) (X W P R : List Sv) (fok : Bool) (y z : Sv) (w0 : World) (c0 c1 c3 c4 c5 c6 c7 c8 c10 c11 c16 c17 c18 c19 c20 c21 c22 c23 c24 c25 c26 c27 c32 c33 c34 c35 c36 c37 c38 c39 c40 c41 c42 c43 c44 c45 c46 c47 c48 c49 c50 c51 c52 c53 c54 c55 c56 c57 c58 c59 c60 c61 c62 c63 c64 c65 c66 c67 c68 c69 c70 c71 c72 c73 c74 c75 c76 c77 c78 c79 c80 c81 c82 c83 c84 c85 c86 c87 c88 c89 c90 c91 c92 c93 c94 c95 c96 c97 c98 c99 c100 c101 c102 c103 c104 c105 c106 c107 c108 c109 c110 c111 c112 c113 c114 c115 c116 c117 c118 c119 c120 c121 c122 c123 c124 c125 c126 c127 c128 c129 c130 c131 c132 c133 c134 c135 c136 c137 c138 c139 c140 c141 c142 c143 c144 c145 c146 c147 c148 c149 c150 c151 c152 c153 c154 c155 c156 c157 c158 c159 c160 c161 c162 c163 c164 c165 c166 c167 c168 c169 c170 c171 c172 c173 c174 c175 c176 c177 c178 c179 c180 c181 c182 c183 c184 c185 c186 c187 c188 c189 c190 c191 c192 c193 c194 c195 c196 c197 c198 c199 c200 c201 c202 c203 c204 c205 c206 c207 c208 c209 c210 c211 c212 c213 c214 c215 c216 c217 c218 c219 c220 c221 c222 c223 c224 c225 c226 c227 c228 c229 c230 c231 c232 c233 c234 c235 c236 c237 c238 c239 c240 c241 c242 c243 c244 c245 c246 c247 c248 c249 c250 c251 c252 c253 c254 c255 c256 c257 c258 c259 c260 c261 c262 c263 c264 c265 c266 c267 c268 c269 c270 c271 c272 c273 c274 : Value) (Q : Exit → Act → World → Prop)
    (hX : Sess w0 (.slice px X.length cx) X) (hW : Sess w0 (.slice pw W.length cw) W) (hP : Sess w0 (.slice pp P.length cp) P) (hR : Sess w0 (.slice pr R.length cr) R)
    (h28 : w0.heap[b28]? = some (.cells y.cells.toArray 38)) (hY : Sok w0 y) (h30 : w0.heap[b30]? = some (.cells z.cells.toArray 38)) (hZ : Sok w0 z)
    (hyz : y.s = z.s) (hPR : cons P = cons R) (hWX : cons W = cons X) (hl : (cons P).length ≤ 1000)
    (hQ : ∀ wx : World, Below w0.heap.size w0 wx → ∀ (u186 u187 u188 u189 u190 u191 u192 u193 u194 u195 u196 u197 u198 u199 u200 u201 u202 u203 u204 u205 u206 u207 u208 u209 u210 u211 u212 u213 u214 u215 u216 u217 u218 u219 u220 u221 u222 u223 u224 u225 u226 u227 u228 u229 u230 u231 u232 u233 u234 u235 u236 u237 u238 : Value), Q .normal ⟨List.toArray (c0 :: c1 :: .int .i64 us :: c3 :: c4 :: c5 :: c6 :: c7 :: c8 :: .slice px X.length cx :: c10 :: c11 :: .slice pw W.length cw :: .slice pp P.length cp :: .slice pr R.length cr :: .bool true :: c16 :: c17 :: c18 :: c19 :: c20 :: c21 :: c22 :: c23 :: c24 :: c25 :: c26 :: c27 :: .pointer (some ⟨b28, 0, none⟩) :: .bool fok :: .pointer (some ⟨b30, 0, none⟩) :: .bool fok :: c32 :: c33 :: c34 :: c35 :: c36 :: c37 :: c38 :: c39 :: c40 :: c41 :: c42 :: c43 :: c44 :: c45 :: c46 :: c47 :: c48 :: c49 :: c50 :: c51 :: c52 :: c53 :: c54 :: c55 :: c56 :: c57 :: c58 :: c59 :: c60 :: c61 :: c62 :: c63 :: c64 :: c65 :: c66 :: c67 :: c68 :: c69 :: c70 :: c71 :: c72 :: c73 :: c74 :: c75 :: c76 :: c77 :: c78 :: c79 :: c80 :: c81 :: c82 :: c83 :: c84 :: c85 :: c86 :: c87 :: c88 :: c89 :: c90 :: c91 :: c92 :: c93 :: c94 :: c95 :: c96 :: c97 :: c98 :: c99 :: c100 :: c101 :: c102 :: c103 :: c104 :: c105 :: c106 :: c107 :: c108 :: c109 :: c110 :: c111 :: c112 :: c113 :: c114 :: c115 :: c116 :: c117 :: c118 :: c119 :: c120 :: c121 :: c122 :: c123 :: c124 :: c125 :: c126 :: c127 :: c128 :: c129 :: c130 :: c131 :: c132 :: c133 :: c134 :: c135 :: c136 :: c137 :: c138 :: c139 :: c140 :: c141 :: c142 :: c143 :: c144 :: c145 :: c146 :: c147 :: c148 :: c149 :: c150 :: c151 :: c152 :: c153 :: c154 :: c155 :: c156 :: c157 :: c158 :: c159 :: c160 :: c161 :: c162 :: c163 :: c164 :: c165 :: c166 :: c167 :: c168 :: c169 :: c170 :: c171 :: c172 :: c173 :: c174 :: c175 :: c176 :: c177 :: c178 :: c179 :: c180 :: c181 :: c182 :: c183 :: c184 :: c185 :: u186 :: u187 :: u188 :: u189 :: u190 :: u191 :: u192 :: u193 :: u194 :: u195 :: u196 :: u197 :: u198 :: u199 :: u200 :: u201 :: u202 :: u203 :: u204 :: u205 :: u206 :: u207 :: u208 :: u209 :: u210 :: u211 :: u212 :: u213 :: u214 :: u215 :: u216 :: u217 :: u218 :: u219 :: u220 :: u221 :: u222 :: u223 :: u224 :: u225 :: u226 :: u227 :: u228 :: u229 :: u230 :: u231 :: u232 :: u233 :: u234 :: u235 :: u236 :: u237 :: u238 :: .bool false :: c240 :: c241 :: c242 :: c243 :: c244 :: c245 :: c246 :: c247 :: c248 :: c249 :: c250 :: c251 :: c252 :: c253 :: c254 :: c255 :: c256 :: c257 :: c258 :: c259 :: c260 :: c261 :: c262 :: c263 :: c264 :: c265 :: c266 :: c267 :: c268 :: c269 :: c270 :: c271 :: c272 :: c273 :: c274 :: []), []⟩ wx) :
    Code.wp Try.prog PTC_code Q ⟨List.toArray (c0 :: c1 :: .int .i64 us :: c3 :: c4 :: c5 :: c6 :: c7 :: c8 :: .slice px X.length cx :: c10 :: c11 :: .slice pw W.length cw :: .slice pp P.length cp :: .slice pr R.length cr :: .bool true :: c16 :: c17 :: c18 :: c19 :: c20 :: c21 :: c22 :: c23 :: c24 :: c25 :: c26 :: c27 :: .pointer (some ⟨b28, 0, none⟩) :: .bool fok :: .pointer (some ⟨b30, 0, none⟩) :: .bool fok :: c32 :: c33 :: c34 :: c35 :: c36 :: c37 :: c38 :: c39 :: c40 :: c41 :: c42 :: c43 :: c44 :: c45 :: c46 :: c47 :: c48 :: c49 :: c50 :: c51 :: c52 :: c53 :: c54 :: c55 :: c56 :: c57 :: c58 :: c59 :: c60 :: c61 :: c62 :: c63 :: c64 :: c65 :: c66 :: c67 :: c68 :: c69 :: c70 :: c71 :: c72 :: c73 :: c74 :: c75 :: c76 :: c77 :: c78 :: c79 :: c80 :: c81 :: c82 :: c83 :: c84 :: c85 :: c86 :: c87 :: c88 :: c89 :: c90 :: c91 :: c92 :: c93 :: c94 :: c95 :: c96 :: c97 :: c98 :: c99 :: c100 :: c101 :: c102 :: c103 :: c104 :: c105 :: c106 :: c107 :: c108 :: c109 :: c110 :: c111 :: c112 :: c113 :: c114 :: c115 :: c116 :: c117 :: c118 :: c119 :: c120 :: c121 :: c122 :: c123 :: c124 :: c125 :: c126 :: c127 :: c128 :: c129 :: c130 :: c131 :: c132 :: c133 :: c134 :: c135 :: c136 :: c137 :: c138 :: c139 :: c140 :: c141 :: c142 :: c143 :: c144 :: c145 :: c146 :: c147 :: c148 :: c149 :: c150 :: c151 :: c152 :: c153 :: c154 :: c155 :: c156 :: c157 :: c158 :: c159 :: c160 :: c161 :: c162 :: c163 :: c164 :: c165 :: c166 :: c167 :: c168 :: c169 :: c170 :: c171 :: c172 :: c173 :: c174 :: c175 :: c176 :: c177 :: c178 :: c179 :: c180 :: c181 :: c182 :: c183 :: c184 :: c185 :: c186 :: c187 :: c188 :: c189 :: c190 :: c191 :: c192 :: c193 :: c194 :: c195 :: c196 :: c197 :: c198 :: c199 :: c200 :: c201 :: c202 :: c203 :: c204 :: c205 :: c206 :: c207 :: c208 :: c209 :: c210 :: c211 :: c212 :: c213 :: c214 :: c215 :: c216 :: c217 :: c218 :: c219 :: c220 :: c221 :: c222 :: c223 :: c224 :: c225 :: c226 :: c227 :: c228 :: c229 :: c230 :: c231 :: c232 :: c233 :: c234 :: c235 :: c236 :: c237 :: c238 :: c239 :: c240 :: c241 :: c242 :: c243 :: c244 :: c245 :: c246 :: c247 :: c248 :: c249 :: c250 :: c251 :: c252 :: c253 :: c254 :: c255 :: c256 :: c257 :: c258 :: c259 :: c260 :: c261 :: c262 :: c263 :: c264 :: c265 :: c266 :: c267 :: c268 :: c269 :: c270 :: c271 :: c272 :: c273 :: c274 :: []), []⟩ w0 := by
  have HQ := Lib.hid hQ
  have HX := Lib.hid hX
  have HW := Lib.hid hW
  have HP := Lib.hid hP
  have HR := Lib.hid hR
  have HY := Lib.hid hY
  have HZ := Lib.hid hZ
  have BZ := Lib.hid (Below.refl w0.heap.size w0)
  have R28 := Lib.hid (rangeAt_block h28)
  have R30 := Lib.hid (rangeAt_block h30)
  have hl1 : P.length ≤ 1000 := by simpa [cons] using hl
  have hl2 : R.length ≤ 1000 := by have := congrArg List.length hPR; simp [cons] at this; omega
  obtain ⟨b, hb⟩ : ∃ b, decide (cons P = cons X) = b := ⟨_, rfl⟩
  have hb2 : decide (cons R = cons X) = b := by rw [← hPR]; exact hb
  obtain ⟨ys, hys⟩ : ∃ ys, sesOf (cons P) us = ys := ⟨_, rfl⟩
  have hys2 : sesOf (cons R) us = ys := by rw [← hPR]; exact hys
  obtain ⟨zs, hzs⟩ : ∃ zs, sesStat (cons P) us = zs := ⟨_, rfl⟩
  have hzs2 : sesStat (cons R) us = zs := by rw [← hPR]; exact hzs
  have HC1 := Lib.hid (fun W (B : Below w0.heap.size w0 W) => rone_any y z W (HY.out.keep B) (HZ.out.keep B))
  rw [show decide (y.s = z.s) = true by rw [hyz]; simp] at HC1
  have HC2 := Lib.hid (fun W (B : Below w0.heap.size w0 W) => rtsame_any _ _ P R true W (HP.out.keep B) (HR.out.keep B) (by rw [hPR]; simp))
  have HC3 := Lib.hid (fun W' (B : Below w0.heap.size w0 W') => rtsame_any _ _ W X true W' (HW.out.keep B) (HX.out.keep B) (by rw [hWX]; simp))
  have HC4 := Lib.hid (fun W (B : Below w0.heap.size w0 W) => sesof_any _ P us W (HP.out.keep B) hl1 ys hys)
  have HC5 := Lib.hid (fun W (B : Below w0.heap.size w0 W) => rof_any _ R us W (HR.out.keep B) hl2 ys hys2)
  have HC6 := Lib.hid (fun v v' D W (h : Ints W v D) (h' : Ints W v' D) => (isame_any v v' D D W h h').mono fun e W' hh => (⟨by rw [hh.1]; simp, hh.2⟩ : e = Ending.returned (.bool true) ∧ Hid (Below W.heap.size W W')))
  have HC7 := Lib.hid (fun W (B : Below w0.heap.size w0 W) => sesstatuses_any _ P us W (HP.out.keep B) hl1 zs hzs)
  have HC8 := Lib.hid (fun W (B : Below w0.heap.size w0 W) => rstatuses_any _ R us W (HR.out.keep B) hl2 zs hzs2)
  have HC9 := Lib.hid (fun W (B : Below w0.heap.size w0 W) => sesame_any _ _ P X b W (HP.out.keep B) (HX.out.keep B) hb)
  have HC10 := Lib.hid (fun W (B : Below w0.heap.size w0 W) => rtsame_any _ _ R X b W (HR.out.keep B) (HX.out.keep B) hb2)
  have x1 := bne_self_eq_false fok
  have x2 := bne_self_eq_false b
  clear hQ hX hW hP hR h28 hY h30 hZ hyz hPR hWX hl hl1 hl2 hb hb2 hys hys2 hzs hzs2
  conv => arg 2; whnf
  go_wp2_with (first
    | (refine ldg R28 rfl rfl rfl ?_; clear R28)
    | (refine ldg R30 rfl rfl rfl ?_; clear R30)
    | (go_at_call 23; refine (HC1.out _ BZ.out).mono ?_; rintro e wa ⟨rfl, Ba⟩; replace BZ := Lib.hid (chain BZ.out Ba.out); clear HC1 Ba)
    | (go_at_call 24; refine (HC2.out _ BZ.out).mono ?_; rintro e wb ⟨rfl, Bb⟩; replace BZ := Lib.hid (chain BZ.out Bb.out); clear HC2 Bb)
    | (go_at_call 24; refine (HC3.out _ BZ.out).mono ?_; rintro e wc ⟨rfl, Bc⟩; replace BZ := Lib.hid (chain BZ.out Bc.out); clear HC3 Bc)
    | (go_at_call 26; refine (HC4.out _ BZ.out).mono ?_; rintro e wd ⟨pd, kd, rfl, OD, Bd⟩; replace BZ := Lib.hid (chain BZ.out Bd.out); clear HC4 Bd)
    | (go_at_call 27; refine (HC5.out _ BZ.out).mono ?_; rintro e we ⟨pe, ke, rfl, OE, Be⟩; replace OD := Lib.hid (OD.out.keep Be.out); replace BZ := Lib.hid (chain BZ.out Be.out); clear HC5 Be)
    | (go_at_call 25; refine (HC6.out _ _ ys _ (ints_of_own OD.out).2 (ints_of_own OE.out).2).mono ?_; rintro e wf ⟨rfl, Bf⟩; replace BZ := Lib.hid (chain BZ.out Bf.out); clear OD OE Bf)
    | (go_at_call 28; refine (HC7.out _ BZ.out).mono ?_; rintro e wg ⟨pg, kg, rfl, OG, Bg⟩; replace BZ := Lib.hid (chain BZ.out Bg.out); clear HC7 Bg)
    | (go_at_call 29; refine (HC8.out _ BZ.out).mono ?_; rintro e wh ⟨ph, kh, rfl, OH, Bh⟩; replace OG := Lib.hid (OG.out.keep Bh.out); replace BZ := Lib.hid (chain BZ.out Bh.out); clear HC8 Bh)
    | (go_at_call 25; refine (HC6.out _ _ zs _ (ints_of_own OG.out).2 (ints_of_own OH.out).2).mono ?_; rintro e wi ⟨rfl, Bi⟩; replace BZ := Lib.hid (chain BZ.out Bi.out); clear OG OH Bi HC6)
    | (go_at_call 30; refine (HC9.out _ BZ.out).mono ?_; rintro e wj ⟨rfl, Bj⟩; replace BZ := Lib.hid (chain BZ.out Bj.out); clear HC9 Bj)
    | (go_at_call 24; refine (HC10.out _ BZ.out).mono ?_; rintro e wk ⟨rfl, Bk⟩; replace BZ := Lib.hid (chain BZ.out Bk.out); clear HC10 Bk))
  exact HQ.out _ BZ.out _ _ _ _ _ _ _ _ _ _ _ _ _ _ _ _ _ _ _ _ _ _ _ _ _ _ _ _ _ _ _ _ _ _ _ _ _ _ _ _ _ _ _ _ _ _ _ _ _ _ _ _ _
end Go.Proofs.Ytlmkkfigmoefdaa.K
