/-
  NetTells: the loop that copies what is handed in (block 3).
-/
import Derived.Test.YtkgngfjlmkclcaaNetRead
import Derived.Test.YtkgngfjlmkclcaaNetSmall
import Derived.Test.YtkgngfjlmkclcaaNetMut
import Derived.Deep.DeepCutAuto
import Derived.Deep.Light
set_option linter.unusedVariables false
set_option linter.unusedSimpArgs false
namespace Nj
open Go Go.RowKit
theorem tcls_row {w : World} {b o cap n m : Nat} {l : List Cl} (h : Sl 3 w (.slice (some ⟨b, o, none⟩) n cap) m (flat Cl.cells l)) (i : Nat) (hi : i < l.length) (d : Cl) (hd : d = l[i]) :
    w.cell? ⟨b, o + i * 3, none⟩ = some (.int .i64 d.do_) ∧ w.cell? ⟨b, o + i * 3 + 1, none⟩ = some (.int .i64 d.k) ∧ w.cell? ⟨b, o + i * 3 + 2, none⟩ = some (.slice d.p d.l.length d.cap) := by
  subst hd
  exact ⟨by simpa using Sl.elem cl_three h i 0 hi (by decide) _ rfl, by simpa [Nat.add_assoc] using Sl.elem cl_three h i 1 hi (by decide) _ rfl, by simpa [Nat.add_assoc] using Sl.elem cl_three h i 2 hi (by decide) _ rfl⟩
end Nj
namespace Go.Proofs.Ytkgngfjlmkclcaa.K
open Go Go.RowKit Nj

noncomputable def PB_code : Code := ((Try.f3.body.bind (findB 3)).getD .skip)

set_option maxRecDepth 100000 in
set_option maxHeartbeats 8000000 in
theorem in_build (bp op cap k : Nat) (l : List Cl) (x : Cl) (w0 : World) (c1 c2 c4 c5 c7 c10 c11 c12 c13 c14 c15 c16 c17 c18 c19 c20 c21 c22 c23 c24 c25 c26 c27 c28 c29 c30 c31 c32 c33 c34 c35 c36 c37 c38 c39 c40 c41 c42 c43 c44 c45 c46 c47 c48 c49 c50 c51 c52 c53 c54 c55 c56 c57 c58 c59 c60 c61 c62 c63 c64 c65 c66 c67 c68 c69 c70 c71 c72 c73 c74 c75 c76 c77 c78 c79 c80 c81 c82 c83 c84 c85 c86 c87 c88 c89 c90 c91 c92 c93 c94 c95 c96 c97 c98 c99 c100 c101 c102 c103 c104 c105 c106 c107 c108 c109 c110 c111 c112 c113 c114 c115 c116 c117 c118 c119 c120 c121 c122 c123 c124 c125 c126 c127 c128 c129 c130 c131 c132 c133 c134 c135 c136 c137 c138 c139 c140 c141 c142 c143 c144 c145 c146 c147 c148 c149 c150 c151 c152 c153 c154 c155 c156 c157 c158 c159 c160 c161 c162 c163 c164 c165 c166 c167 c168 c169 c170 c171 c172 c173 c174 c175 c176 c177 c178 c179 c180 c181 c182 c183 c184 c185 c186 c187 c188 c189 c190 c191 c192 c193 c194 c195 c196 c197 c198 c199 c200 c201 c202 c203 c204 c205 c206 c207 c208 c209 c210 c211 c212 c213 c214 c215 c216 c217 c218 c219 c220 c221 c222 c223 c224 c225 c226 c227 c228 c229 c230 c231 c232 c233 c234 c235 c236 c237 c238 c239 c240 c241 c242 c243 c244 c245 c246 c247 c248 c249 c250 c251 c252 c253 : Value) (Q : Exit → Act → World → Prop) (hA : Cls w0 (.slice (some ⟨bp, op, none⟩) l.length cap) l) (hk : k < l.length) (hx : x = l[k]) (hm : l.length ≤ 1000) (hx100 : x.l.length ≤ 100)
    (hQ : ∀ (p8 : Option Addr) (cap8 : Nat) (ds8 : List Dv) (wx : World), ds8.map Dv.con = x.l.map Dv.con → AllD w0.heap.size wx (.slice p8 ds8.length cap8) ds8 → (∀ d ∈ ds8, d.bs.length ≤ 100) → Below w0.heap.size w0 wx → ∀ (u2 u9 u64 u65 u66 u67 u68 u69 u70 u71 u72 u73 u74 u75 u76 u77 u78 u79 u80 u81 u82 u83 u84 u85 u86 u87 u88 u89 u90 u91 u92 u93 u94 u95 u96 u97 u98 u99 u100 u101 u102 u103 u104 u105 u106 u107 u108 u109 u110 u111 u112 u113 u114 u115 u116 u117 u118 : Value), Q .normal ⟨List.toArray (.slice (some ⟨bp, op, none⟩) l.length cap :: c1 :: u2 :: .bool true :: c4 :: c5 :: .int .i64 k :: c7 :: .slice p8 ds8.length cap8 :: u9 :: c10 :: c11 :: c12 :: c13 :: c14 :: c15 :: c16 :: c17 :: c18 :: c19 :: c20 :: c21 :: c22 :: c23 :: c24 :: c25 :: c26 :: c27 :: c28 :: c29 :: c30 :: c31 :: c32 :: c33 :: c34 :: c35 :: c36 :: c37 :: c38 :: c39 :: c40 :: c41 :: c42 :: c43 :: c44 :: c45 :: c46 :: c47 :: c48 :: c49 :: c50 :: c51 :: c52 :: c53 :: c54 :: c55 :: c56 :: c57 :: c58 :: c59 :: c60 :: c61 :: c62 :: c63 :: u64 :: u65 :: u66 :: u67 :: u68 :: u69 :: u70 :: u71 :: u72 :: u73 :: u74 :: u75 :: u76 :: u77 :: u78 :: u79 :: u80 :: u81 :: u82 :: u83 :: u84 :: u85 :: u86 :: u87 :: u88 :: u89 :: u90 :: u91 :: u92 :: u93 :: u94 :: u95 :: u96 :: u97 :: u98 :: u99 :: u100 :: u101 :: u102 :: u103 :: u104 :: u105 :: u106 :: u107 :: u108 :: u109 :: u110 :: u111 :: u112 :: u113 :: u114 :: u115 :: u116 :: u117 :: u118 :: c119 :: c120 :: c121 :: c122 :: c123 :: c124 :: c125 :: c126 :: c127 :: c128 :: c129 :: c130 :: c131 :: c132 :: c133 :: c134 :: c135 :: c136 :: c137 :: c138 :: c139 :: c140 :: c141 :: c142 :: c143 :: c144 :: c145 :: c146 :: c147 :: c148 :: c149 :: c150 :: c151 :: c152 :: c153 :: c154 :: c155 :: c156 :: c157 :: c158 :: c159 :: c160 :: c161 :: c162 :: c163 :: c164 :: c165 :: c166 :: c167 :: c168 :: c169 :: c170 :: c171 :: c172 :: c173 :: c174 :: c175 :: c176 :: c177 :: c178 :: c179 :: c180 :: c181 :: c182 :: c183 :: c184 :: c185 :: c186 :: c187 :: c188 :: c189 :: c190 :: c191 :: c192 :: c193 :: c194 :: c195 :: c196 :: c197 :: c198 :: c199 :: c200 :: c201 :: c202 :: c203 :: c204 :: c205 :: c206 :: c207 :: c208 :: c209 :: c210 :: c211 :: c212 :: c213 :: c214 :: c215 :: c216 :: c217 :: c218 :: c219 :: c220 :: c221 :: c222 :: c223 :: c224 :: c225 :: c226 :: c227 :: c228 :: c229 :: c230 :: c231 :: c232 :: c233 :: c234 :: c235 :: c236 :: c237 :: c238 :: c239 :: c240 :: c241 :: c242 :: c243 :: c244 :: c245 :: c246 :: c247 :: c248 :: c249 :: c250 :: c251 :: c252 :: c253 :: []), []⟩ wx)
    (hR : ∀ wx : World, Below w0.heap.size w0 wx → ∀ (u8 u9 u64 u65 u66 u67 u68 u69 u70 u71 u72 u73 u74 u75 u76 u77 u78 u79 u80 u81 u82 u83 u84 u85 u86 u87 u88 u89 u90 u91 u92 u93 u94 u95 u96 u97 u98 u99 u100 u101 u102 u103 u104 u105 u106 u107 u108 u109 u110 u111 u112 u113 u114 u115 u116 u117 u118 : Value), Q .ret ⟨List.toArray (.slice (some ⟨bp, op, none⟩) l.length cap :: c1 :: .bool true :: .bool true :: c4 :: c5 :: .int .i64 k :: c7 :: u8 :: u9 :: c10 :: c11 :: c12 :: c13 :: c14 :: c15 :: c16 :: c17 :: c18 :: c19 :: c20 :: c21 :: c22 :: c23 :: c24 :: c25 :: c26 :: c27 :: c28 :: c29 :: c30 :: c31 :: c32 :: c33 :: c34 :: c35 :: c36 :: c37 :: c38 :: c39 :: c40 :: c41 :: c42 :: c43 :: c44 :: c45 :: c46 :: c47 :: c48 :: c49 :: c50 :: c51 :: c52 :: c53 :: c54 :: c55 :: c56 :: c57 :: c58 :: c59 :: c60 :: c61 :: c62 :: c63 :: u64 :: u65 :: u66 :: u67 :: u68 :: u69 :: u70 :: u71 :: u72 :: u73 :: u74 :: u75 :: u76 :: u77 :: u78 :: u79 :: u80 :: u81 :: u82 :: u83 :: u84 :: u85 :: u86 :: u87 :: u88 :: u89 :: u90 :: u91 :: u92 :: u93 :: u94 :: u95 :: u96 :: u97 :: u98 :: u99 :: u100 :: u101 :: u102 :: u103 :: u104 :: u105 :: u106 :: u107 :: u108 :: u109 :: u110 :: u111 :: u112 :: u113 :: u114 :: u115 :: u116 :: u117 :: u118 :: c119 :: c120 :: c121 :: c122 :: c123 :: c124 :: c125 :: c126 :: c127 :: c128 :: c129 :: c130 :: c131 :: c132 :: c133 :: c134 :: c135 :: c136 :: c137 :: c138 :: c139 :: c140 :: c141 :: c142 :: c143 :: c144 :: c145 :: c146 :: c147 :: c148 :: c149 :: c150 :: c151 :: c152 :: c153 :: c154 :: c155 :: c156 :: c157 :: c158 :: c159 :: c160 :: c161 :: c162 :: c163 :: c164 :: c165 :: c166 :: c167 :: c168 :: c169 :: c170 :: c171 :: c172 :: c173 :: c174 :: c175 :: c176 :: c177 :: c178 :: c179 :: c180 :: c181 :: c182 :: c183 :: c184 :: c185 :: c186 :: c187 :: c188 :: c189 :: c190 :: c191 :: c192 :: c193 :: c194 :: c195 :: c196 :: c197 :: c198 :: c199 :: c200 :: c201 :: c202 :: c203 :: c204 :: c205 :: c206 :: c207 :: c208 :: c209 :: c210 :: c211 :: c212 :: c213 :: c214 :: c215 :: c216 :: c217 :: c218 :: c219 :: c220 :: c221 :: c222 :: c223 :: c224 :: c225 :: c226 :: c227 :: c228 :: c229 :: c230 :: c231 :: c232 :: c233 :: c234 :: c235 :: c236 :: c237 :: c238 :: c239 :: c240 :: c241 :: c242 :: c243 :: c244 :: c245 :: c246 :: c247 :: c248 :: c249 :: c250 :: c251 :: c252 :: c253 :: []), []⟩ wx) :
    Code.wp Try.prog PB_code Q ⟨List.toArray (.slice (some ⟨bp, op, none⟩) l.length cap :: c1 :: c2 :: .bool true :: c4 :: c5 :: .int .i64 k :: c7 :: .slice none 0 0 :: .int .i64 0 :: c10 :: c11 :: c12 :: c13 :: c14 :: c15 :: c16 :: c17 :: c18 :: c19 :: c20 :: c21 :: c22 :: c23 :: c24 :: c25 :: c26 :: c27 :: c28 :: c29 :: c30 :: c31 :: c32 :: c33 :: c34 :: c35 :: c36 :: c37 :: c38 :: c39 :: c40 :: c41 :: c42 :: c43 :: c44 :: c45 :: c46 :: c47 :: c48 :: c49 :: c50 :: c51 :: c52 :: c53 :: c54 :: c55 :: c56 :: c57 :: c58 :: c59 :: c60 :: c61 :: c62 :: c63 :: c64 :: c65 :: c66 :: c67 :: c68 :: c69 :: c70 :: c71 :: c72 :: c73 :: c74 :: c75 :: c76 :: c77 :: c78 :: c79 :: c80 :: c81 :: c82 :: c83 :: c84 :: c85 :: c86 :: c87 :: c88 :: c89 :: c90 :: c91 :: c92 :: c93 :: c94 :: c95 :: c96 :: c97 :: c98 :: c99 :: c100 :: c101 :: c102 :: c103 :: c104 :: c105 :: c106 :: c107 :: c108 :: c109 :: c110 :: c111 :: c112 :: c113 :: c114 :: c115 :: c116 :: c117 :: c118 :: c119 :: c120 :: c121 :: c122 :: c123 :: c124 :: c125 :: c126 :: c127 :: c128 :: c129 :: c130 :: c131 :: c132 :: c133 :: c134 :: c135 :: c136 :: c137 :: c138 :: c139 :: c140 :: c141 :: c142 :: c143 :: c144 :: c145 :: c146 :: c147 :: c148 :: c149 :: c150 :: c151 :: c152 :: c153 :: c154 :: c155 :: c156 :: c157 :: c158 :: c159 :: c160 :: c161 :: c162 :: c163 :: c164 :: c165 :: c166 :: c167 :: c168 :: c169 :: c170 :: c171 :: c172 :: c173 :: c174 :: c175 :: c176 :: c177 :: c178 :: c179 :: c180 :: c181 :: c182 :: c183 :: c184 :: c185 :: c186 :: c187 :: c188 :: c189 :: c190 :: c191 :: c192 :: c193 :: c194 :: c195 :: c196 :: c197 :: c198 :: c199 :: c200 :: c201 :: c202 :: c203 :: c204 :: c205 :: c206 :: c207 :: c208 :: c209 :: c210 :: c211 :: c212 :: c213 :: c214 :: c215 :: c216 :: c217 :: c218 :: c219 :: c220 :: c221 :: c222 :: c223 :: c224 :: c225 :: c226 :: c227 :: c228 :: c229 :: c230 :: c231 :: c232 :: c233 :: c234 :: c235 :: c236 :: c237 :: c238 :: c239 :: c240 :: c241 :: c242 :: c243 :: c244 :: c245 :: c246 :: c247 :: c248 :: c249 :: c250 :: c251 :: c252 :: c253 :: []), []⟩ w0 := by
  have HQ := Lib.hid hQ
  have HRt := Lib.hid hR
  have HRow := Lib.hid (fun W (B : Below w0.heap.size w0 W) => tcls_row (Sl.keep (by decide) hA.1 B) k hk x hx)
  have HX := Lib.hid (hA.2 x (by rw [hx]; simp)).1
  have t1 : (k : Int) < (l.length : Int) := by omega
  have t2 : (0 : Int) ≤ (k : Int) := by omega
  have hx100' : (x.l.length : Int) ≤ 100 := by omega
  clear hA hx hQ hR
  conv => arg 2; whnf
  go_wp2_with fail
  go_loopw [8, 9] (fun v i wr => ∃ (m : Nat) (p8 : Option Addr) (cap8 : Nat) (ds8 : List Dv), m ≤ x.l.length ∧ i = .int .i64 m ∧ v = .slice p8 ds8.length cap8 ∧ ds8.length = m ∧ ds8.map Dv.con = (x.l.take m).map Dv.con ∧ AllD w0.heap.size wr (.slice p8 ds8.length cap8) ds8 ∧ (∀ d ∈ ds8, d.bs.length ≤ 100) ∧ Below w0.heap.size w0 wr) (fun _ i _ => x.l.length - (intOf i).toNat)
  case atStart => exact ⟨0, none, 0, [], by omega, rfl, rfl, rfl, rfl, ⟨own_nil _ _ _ _, fun d hd => by cases hd⟩, (fun d hd => by cases hd), Below.refl _ _⟩
  case round =>
    obtain ⟨m, p8, cap8, ds8, hm8, rfl, rfl, hlen, hcon, hall, hle, hwb⟩ := hrel
    have HO := Lib.hid hall.1
    have HOb := Lib.hid hall.2
    have HCo := Lib.hid hcon
    have HLe := Lib.hid hle
    have HB := Lib.hid hwb
    have HLn := Lib.hid hlen
    have hd8 : ds8.length ≤ 100 := by omega
    have hszr : w0.heap.size ≤ wr.heap.size := hwb.size
    obtain ⟨r0, r1, r2⟩ := HRow.out wr HB.out
    clear hall hcon hle hwb hlen
    by_cases hlt : m < x.l.length
    · have t3 : (m : Int) < (x.l.length : Int) := by omega
      have t4 : (0 : Int) ≤ (m : Int) := by omega
      have HXr := Lib.hid (HX.out.1.keep HB.out)
      obtain ⟨bx, ox, hxp, _⟩ := HXr.out.1.open (by omega)
      obtain ⟨y, hy⟩ : ∃ y, y = x.l[m] := ⟨_, rfl⟩
      have HY := Lib.hid hy
      have HBy := Lib.hid (HXr.out.2 y (by rw [hy]; simp))
      rw [hxp] at r2
      have HXs := Lib.hid (show Sl 3 wr (.slice (some ⟨bx, ox, none⟩) x.l.length x.cap) x.l.length (flat Dv.cells x.l) by have := HXr.out.1; rw [hxp] at this; exact this)
      obtain ⟨q0, q1, q2⟩ := dsl_row HXs.out m hlt y hy
      have HStep := Lib.hid (show (x.l.take (m + 1)).map Dv.con = (x.l.take m).map Dv.con ++ [y.con] by rw [List.take_succ_eq_append_getElem hlt, List.map_append, ← hy]; rfl)
      have HXp := Lib.hid hxp
      clear hy hxp
      by_cases hbig : 100 < y.bs.length
      · have d1 := dec_t (show (100 : Int) < (y.bs.length : Int) by omega)
        go_wp2_with fail
        exact HRt.out _ HB.out _ _ _ _ _ _ _ _ _ _ _ _ _ _ _ _ _ _ _ _ _ _ _ _ _ _ _ _ _ _ _ _ _ _ _ _ _ _ _ _ _ _ _ _ _ _ _ _ _ _ _ _ _ _ _ _ _
      · have d1 := dec_f (show ¬ (100 : Int) < (y.bs.length : Int) by omega)
        have hyl : y.bs.length ≤ 100 := by omega
        have hyl' : (y.bs.length : Int) ≤ 100 := by omega
        go_upto_region 23 with fail
        obtain ⟨fr, tt, py, capy, bs⟩ := y
        simp only at q0 q1 q2 hyl hyl'
        have HYr := Lib.hid (fun W (B : Below w0.heap.size w0 W) => dsl_row (show Sl 3 W (.slice (some ⟨bx, ox, none⟩) x.l.length x.cap) x.l.length (flat Dv.cells x.l) by have := (HX.out.1.keep B).1; rw [HXp.out] at this; exact this) m hlt ⟨fr, tt, py, capy, bs⟩ HY.out)
        simp only at HYr
        cases py with
        | none =>
          have h0 : bs = [] := by
            cases bs with
            | nil => rfl
            | cons a l => obtain ⟨b, o, h, _⟩ := Sl.open HBy.out (by simp); cases h
          subst h0
          simp only [List.length_nil] at q2 HYr
          go_region_held3 (fun w' => w'.cell? ⟨bp, op + k * 3 + 2, none⟩ = some (.slice (some ⟨bx, ox, none⟩) x.l.length x.cap) ∧ w'.cell? ⟨bx, ox + m * 3, none⟩ = some (.int .i64 fr) ∧ w'.cell? ⟨bx, ox + m * 3 + 1, none⟩ = some (.int .i64 tt) ∧ w'.cell? ⟨bx, ox + m * 3 + 2, none⟩ = some (.slice none 0 capy)) (go_keep)
            ((first
              | (refine step_app (v := .slice p8 ds8.length cap8) (n := ds8.length) (cells := flat Dv.cells ds8) rfl (.tmp 86) (.tmp 117) 28 rfl w0.heap.size 33 (.agg #[.int .i64 0, .int .i64 0, .slice none 0 0]) 3 40 Try.underlying28 (by kernel_rfl) rfl (by decide) w0.heap.size w0 (Lib.hid (by have hbsz := Below.size (HB.out); (repeat (first | (with_reducible exact HB.out) | (with_reducible refine bel_set (by first | omega | (simp; done) | (simp; omega)) ?_) | (with_reducible refine bel_alloc (by first | omega | (simp; done) | (simp; omega)) ?_) | (with_reducible refine bel_drew ?_) | (with_reducible refine bel_drewN ?_ _))); first | done | fail "left")) (Nat.le_refl _) (Lib.hid (by (repeat (first | (with_reducible exact HO.out) | (with_reducible refine Own.set ?_ _ _ (by first | omega | (simp; done) | (simp; omega))) | (with_reducible refine Own.alloc ?_ _) | (with_reducible refine Own.drew ?_) | (with_reducible refine Own.drewN ?_ _))); first | done | fail "left")) (by simp [Act.eval, Act.put]) ⟨wr.heap.size + 1, 0, none⟩ 1 1 (by simp [Act.eval, Act.put]) [.int .i64 fr, .int .i64 tt, .slice (some ⟨wr.heap.size, 0, none⟩) 0 0] rfl (Lib.hid (news_new (w := (wr.alloc (.cells #[] 5)).alloc (.cells #[.int .i64 fr, .int .i64 tt, .slice (some ⟨wr.heap.size, 0, none⟩) 0 0] 33)) (heap_new (wr.alloc (.cells #[] 5)) _ _ (by simp)))) (by simp [Value.oneCell']) (by omega) (by omega) (by first | omega | (simp; omega)) ?_; intro p6 cap6 w6 hc6 O6 B6 K6; obtain ⟨s0, s1, s2⟩ := HRow.out w6 B6.out; rw [HXp.out] at s2; obtain ⟨u0, u1, u2⟩ := HYr.out w6 B6.out)
              | fail))
          have HKb := Lib.hid (show ∀ z : Dv, OwnB 5 w0.heap.size (wr.alloc (.cells #[] 5)) z → OwnB 5 w0.heap.size w6 z from fun z hz => Own.kept (Own.alloc hz _) K6.out (fun g hg k hk e => by subst e; exact own_apart (HO.out.alloc _) hz (by decide) g hk hg))
          have HKp := Lib.hid (show ∀ z : Dv, OwnB 5 w0.heap.size wr z → OwnB 5 w0.heap.size w6 z from fun z hz => HKb.out z (Own.alloc hz _))
          have HNew := Lib.hid (show OwnB 5 w0.heap.size w6 ⟨fr, tt, some ⟨wr.heap.size, 0, none⟩, 0, []⟩ from HKb.out ⟨fr, tt, some ⟨wr.heap.size, 0, none⟩, 0, []⟩ (own_empty _ _ _ wr _ rfl hszr))
          go_wp2_with fail
          go_roundw
          case rel =>
            refine ⟨m + 1, p6, cap6, ds8 ++ [⟨fr, tt, some ⟨wr.heap.size, 0, none⟩, 0, []⟩], by omega, by go_num, by rw [List.length_append]; rfl, by rw [List.length_append, HLn.out]; rfl, by rw [List.map_append, HCo.out, HStep.out]; rfl, ⟨?_, fun e he => ?_⟩, fun e he => ?_, B6.out⟩
            · rw [List.length_append, flat_append]; exact O6.out
            · rcases List.mem_append.1 he with he | he
              · exact HKp.out e (HOb.out e he)
              · simp only [List.mem_singleton] at he
                subst he
                exact HNew.out
            · rcases List.mem_append.1 he with he | he
              · exact HLe.out e he
              · simp only [List.mem_singleton] at he
                subst he
                simp
          case measure => go_light; simp [intOf]; omega
        | some ad =>
          have HNw := Lib.hid (show ∀ W, Below w0.heap.size w0 W → ∀ j u, (u8s bs)[j]? = some u → W.cell? (ad.add j) = some u from fun W B => Sl.news (by decide) ((HX.out.1.keep B).2 ⟨fr, tt, some ad, capy, bs⟩ (by rw [HY.out]; simp)))
          go_region_held3 (fun w' => w'.cell? ⟨bp, op + k * 3 + 2, none⟩ = some (.slice (some ⟨bx, ox, none⟩) x.l.length x.cap) ∧ w'.cell? ⟨bx, ox + m * 3, none⟩ = some (.int .i64 fr) ∧ w'.cell? ⟨bx, ox + m * 3 + 1, none⟩ = some (.int .i64 tt) ∧ w'.cell? ⟨bx, ox + m * 3 + 2, none⟩ = some (.slice (some ad) bs.length capy)) (go_keep)
            ((first
              | (refine step_app (v := .slice (some ⟨wr.heap.size, 0, none⟩) 0 0) (n := 0) (cells := []) rfl (.tmp 105) (.tmp 114) 31 rfl wr.heap.size 5 (.int .u8 0) 1 1 Try.underlying31 (by kernel_rfl) rfl (by decide) wr.heap.size wr (Lib.hid (by (repeat (first | (with_reducible exact Below.refl _ _) | (with_reducible refine bel_set (by first | omega | (simp; done) | (simp; omega)) ?_) | (with_reducible refine bel_alloc (by first | omega | (simp; done) | (simp; omega)) ?_) | (with_reducible refine bel_drew ?_) | (with_reducible refine bel_drewN ?_ _))); first | done | fail "left")) (Nat.le_refl _) (Lib.hid (by (repeat (first | (with_reducible exact own_empty _ _ _ wr wr.heap.size rfl (Nat.le_refl _)) | (with_reducible refine Own.set ?_ _ _ (by first | omega | (simp; done) | (simp; omega))) | (with_reducible refine Own.alloc ?_ _) | (with_reducible refine Own.drew ?_) | (with_reducible refine Own.drewN ?_ _))); first | done | fail "left")) (by simp [Act.eval, Act.put]) ad bs.length capy (by simp [Act.eval, Act.put]) (u8s bs) (by rw [u8s_len, Nat.mul_one]) (Lib.hid (HNw.out _ (by have hbsz := Below.size (HB.out); (repeat (first | (with_reducible exact HB.out) | (with_reducible refine bel_set (by first | omega | (simp; done) | (simp; omega)) ?_) | (with_reducible refine bel_alloc (by first | omega | (simp; done) | (simp; omega)) ?_) | (with_reducible refine bel_drew ?_) | (with_reducible refine bel_drewN ?_ _))); first | done | fail "left"))) (u8s_one bs) (by omega) (by omega) (by first | (simp; done) | (simp; omega)) ?_; intro p5 cap5 w5 hc5 O5 B5 K5; simp only [Nat.zero_add, List.nil_append] at O5 hc5; have BB5 := Lib.hid (chain HB.out B5.out); obtain ⟨s0, s1, s2⟩ := HRow.out w5 BB5.out; rw [HXp.out] at s2; obtain ⟨u0, u1, u2⟩ := HYr.out w5 BB5.out; have hz5 := B5.out.size; have HO5 := Lib.hid (HO.out.keep B5.out))
              | (refine step_app (v := .slice p8 ds8.length cap8) (n := ds8.length) (cells := flat Dv.cells ds8) rfl (.tmp 86) (.tmp 117) 28 rfl w0.heap.size 33 (.agg #[.int .i64 0, .int .i64 0, .slice none 0 0]) 3 40 Try.underlying28 (by kernel_rfl) rfl (by decide) w0.heap.size w0 (Lib.hid (by have hbsz := Below.size (BB5.out); (repeat (first | (with_reducible exact BB5.out) | (with_reducible refine bel_set (by first | omega | (simp; done) | (simp; omega)) ?_) | (with_reducible refine bel_alloc (by first | omega | (simp; done) | (simp; omega)) ?_) | (with_reducible refine bel_drew ?_) | (with_reducible refine bel_drewN ?_ _))); first | done | fail "left")) (Nat.le_refl _) (Lib.hid (by (repeat (first | (with_reducible exact HO5.out) | (with_reducible refine Own.set ?_ _ _ (by first | omega | (simp; done) | (simp; omega))) | (with_reducible refine Own.alloc ?_ _) | (with_reducible refine Own.drew ?_) | (with_reducible refine Own.drewN ?_ _))); first | done | fail "left")) (by simp [Act.eval, Act.put]) ⟨w5.heap.size, 0, none⟩ 1 1 (by simp [Act.eval, Act.put]) [.int .i64 fr, .int .i64 tt, .slice p5 bs.length cap5] rfl (Lib.hid (news_new (w := w5.alloc (.cells #[.int .i64 fr, .int .i64 tt, .slice p5 bs.length cap5] 33)) (heap_new w5 _ _ rfl))) (by simp [Value.oneCell']) (by omega) (by omega) (by first | omega | (simp; omega)) ?_; intro p6 cap6 w6 hc6 O6 B6 K6; obtain ⟨s0, s1, s2⟩ := HRow.out w6 B6.out; rw [HXp.out] at s2; obtain ⟨u0, u1, u2⟩ := HYr.out w6 B6.out)
              | fail))
          have HKb := Lib.hid (show ∀ z : Dv, OwnB 5 w0.heap.size w5 z → OwnB 5 w0.heap.size w6 z from fun z hz => Own.kept (Own.alloc hz _) K6.out (fun g hg k hk e => by subst e; exact own_apart HO5.out hz (by decide) g hk hg))
          have HKp := Lib.hid (show ∀ z : Dv, OwnB 5 w0.heap.size wr z → OwnB 5 w0.heap.size w6 z from fun z hz => HKb.out z (Own.keep hz B5.out))
          have HNew := Lib.hid (show OwnB 5 w0.heap.size w6 ⟨fr, tt, p5, cap5, bs⟩ from HKb.out _ (Own.mono O5.out hszr))
          go_wp2_with fail
          go_roundw
          case rel =>
            refine ⟨m + 1, p6, cap6, ds8 ++ [⟨fr, tt, p5, cap5, bs⟩], by omega, by go_num, by rw [List.length_append]; rfl, by rw [List.length_append, HLn.out]; rfl, by rw [List.map_append, HCo.out, HStep.out]; rfl, ⟨?_, fun e he => ?_⟩, fun e he => ?_, B6.out⟩
            · rw [List.length_append, flat_append]; exact O6.out
            · rcases List.mem_append.1 he with he | he
              · exact HKp.out e (HOb.out e he)
              · simp only [List.mem_singleton] at he
                subst he
                exact HNew.out
            · rcases List.mem_append.1 he with he | he
              · exact HLe.out e he
              · simp only [List.mem_singleton] at he
                subst he
                exact hyl
          case measure => go_light; simp [intOf]; omega
    · have hme : m = x.l.length := by omega
      subst hme
      have t3 : decide ((x.l.length : Int) < (x.l.length : Int)) = false := by simp
      have HC2 := Lib.hid (show ds8.map Dv.con = x.l.map Dv.con by rw [HCo.out, List.take_length])
      go_wp2_with fail
      exact HQ.out p8 cap8 ds8 _ HC2.out ⟨HO.out, HOb.out⟩ HLe.out HB.out _ _ _ _ _ _ _ _ _ _ _ _ _ _ _ _ _ _ _ _ _ _ _ _ _ _ _ _ _ _ _ _ _ _ _ _ _ _ _ _ _ _ _ _ _ _ _ _ _ _ _ _ _ _ _ _ _
end Go.Proofs.Ytkgngfjlmkclcaa.K
