/-
  ChannelSends: the switch (block 2), act by act, whatever the frame.
-/
import Derived.Test.YteilgibfmljoeaaChanSendP
set_option linter.unusedVariables false
set_option linter.unusedSimpArgs false
namespace Go.Proofs.Yteilgibfmljoeaa.K
open Go Go.RowKit Nj


noncomputable def PC2_code : Code := ((Try.f7.body.bind (findB 2)).getD .skip)

set_option maxRecDepth 100000 in
set_option maxHeartbeats 8000000 in
theorem cs_push (x : Ac) (S : Sd) (q : Rt) (p : Option Addr) (cap b7 b8 : Nat) (w w5 : World) (c0 c1 c3 c4 c5 c6 c9 c10 c11 c12 c13 c14 c15 c16 c17 c18 c19 c20 c21 c22 c23 c24 c25 c26 c27 c28 c29 c30 c31 c32 c33 c34 c35 c36 c37 c38 c39 c40 c41 c42 c43 c44 c45 c46 c47 c48 c50 c51 c52 c53 c54 c55 c56 c57 c58 c59 c60 c61 c62 c63 c64 c65 c66 c67 c68 c69 c70 c71 c72 c73 c74 c75 c76 c77 c78 c79 c80 c81 c82 c83 c84 c85 c86 c87 c88 c89 c90 c91 c92 c93 c94 c95 c96 c97 c98 c99 c100 c101 c102 c103 c104 c105 c106 c107 c108 c109 c110 c111 c112 c113 c114 c115 c116 c117 c118 c119 c120 c121 c122 c123 c124 c125 c126 c127 c128 c129 c130 c131 c132 c133 c134 c135 c136 c137 c138 c139 c140 c141 c142 c143 c144 c145 c146 c147 c148 c149 c150 c151 c152 c153 c154 c155 c156 c157 c158 c159 c160 c161 c162 c163 c164 c165 c166 c167 c168 c169 c170 c171 c172 c173 c174 c175 c176 c177 c178 c179 c180 c181 c182 c183 c184 c185 c186 c187 c188 c189 c190 c191 c192 c193 c194 c195 c196 c197 c198 c199 c200 c201 c202 c203 c204 c205 c206 c207 c208 c209 c210 c211 c212 c213 c214 c215 c216 c217 c218 c219 c220 c221 : Value) (Q : Exit → Act → World → Prop) (A1 : Hid (w5.heap[w.heap.size]? = some (.cells #[.int .i64 S.next, .slice p S.fl.length cap, .int .i64 S.cwnd, .int .i64 S.acc, .int .i64 q.s, .int .i64 q.v, .int .i64 q.rto, .int .i64 q.fails, .bool q.has] 28))) (A7 : Hid (w5.heap[b7]? = some (.cells #[.int .i64 x.do_, .int .i64 x.n, .int .i64 x.m, .int .i64 x.now, .int .i64 x.note.user, .int .i64 x.note.ver, .int .i64 x.note.stat, .int .i64 x.note.cnt] 47))) (A8 : Hid (w5.heap[b8]? = some (.cells #[.int .i64 S.next, .slice p S.fl.length cap, .int .i64 S.cwnd, .int .i64 S.acc, .int .i64 q.s, .int .i64 q.v, .int .i64 q.rto, .int .i64 q.fails, .bool q.has] 28))) (FS : Hid (Fls w5 (.slice p S.fl.length cap) S.fl)) (HR : Hid (chRight ⟨S, q⟩ = true)) (BA : Hid (Below w.heap.size w w5)) (m1 : w.heap.size ≠ b7) (m2 : w.heap.size ≠ b8) (hs4 : w.heap.size < w5.heap.size) (e1 : 0 ≤ x.now) (e2 : x.now ≤ 1099511627776) (HXn : Hid (-9223372036854775808 ≤ x.n ∧ x.n ≤ 9223372036854775807)) (hd : x.do_ = 0)
    (HQ : Hid (∀ (S' : Sd) (q' : Rt) (p' : Option Addr) (cap' : Nat) (wx : World), (x.do_ = 0 ∨ S'.next = S.next) → chRight ⟨S', q'⟩ = true → wx.heap[w.heap.size]? = some (.cells #[.int .i64 S'.next, .slice p' S'.fl.length cap', .int .i64 S'.cwnd, .int .i64 S'.acc, .int .i64 q'.s, .int .i64 q'.v, .int .i64 q'.rto, .int .i64 q'.fails, .bool q'.has] 28) → wx.heap[b7]? = some (.cells #[.int .i64 x.do_, .int .i64 x.n, .int .i64 x.m, .int .i64 x.now, .int .i64 x.note.user, .int .i64 x.note.ver, .int .i64 x.note.stat, .int .i64 x.note.cnt] 47) → wx.heap[b8]? = some (.cells #[.int .i64 S.next, .slice p S.fl.length cap, .int .i64 S.cwnd, .int .i64 S.acc, .int .i64 q.s, .int .i64 q.v, .int .i64 q.rto, .int .i64 q.fails, .bool q.has] 28) → Fls wx (.slice p' S'.fl.length cap') S'.fl → Below w.heap.size w wx → ∀ (u4 u9 u10 u11 u12 u13 u14 u15 u16 u17 u50 u51 u52 u53 u54 u55 u56 u57 u58 u59 u60 u61 u62 u63 u64 u65 u66 u67 u68 u69 u70 u71 u72 u73 u74 u75 u76 u77 u78 u79 u80 u81 u82 u83 u84 u85 u86 u87 u88 u89 u90 u91 u92 u93 u94 u95 u96 u97 u98 u99 u100 u101 u102 u103 u104 u105 u106 u107 u108 u109 u110 u111 u112 u113 u114 u115 u116 u117 u118 u119 u120 u121 u122 u123 u124 u125 u126 u127 u128 u129 u130 u131 u132 u133 u134 u135 u136 u137 u138 u139 u140 u141 u142 u143 u144 u145 u146 u147 u148 u149 u150 u151 u152 u153 u154 u155 u156 u157 u158 u159 u160 u161 u162 u163 u164 u165 u166 u167 u168 u169 u170 u171 u172 u173 u174 u175 u176 u177 u178 u179 u180 u181 u182 u183 u184 u185 u186 u187 u188 u189 u190 u191 u192 u193 u194 u195 u196 u197 u198 u199 u200 u201 u202 u203 : Value), Q .normal ⟨List.toArray (c0 :: c1 :: .pointer (some ⟨w.heap.size, 0, none⟩) :: c3 :: u4 :: c5 :: c6 :: .pointer (some ⟨b7, 0, none⟩) :: .pointer (some ⟨b8, 0, none⟩) :: u9 :: u10 :: u11 :: u12 :: u13 :: u14 :: u15 :: u16 :: u17 :: c18 :: c19 :: c20 :: c21 :: c22 :: c23 :: c24 :: c25 :: c26 :: c27 :: c28 :: c29 :: c30 :: c31 :: c32 :: c33 :: c34 :: c35 :: c36 :: c37 :: c38 :: c39 :: c40 :: c41 :: c42 :: c43 :: c44 :: c45 :: c46 :: c47 :: c48 :: .int .i64 x.do_ :: u50 :: u51 :: u52 :: u53 :: u54 :: u55 :: u56 :: u57 :: u58 :: u59 :: u60 :: u61 :: u62 :: u63 :: u64 :: u65 :: u66 :: u67 :: u68 :: u69 :: u70 :: u71 :: u72 :: u73 :: u74 :: u75 :: u76 :: u77 :: u78 :: u79 :: u80 :: u81 :: u82 :: u83 :: u84 :: u85 :: u86 :: u87 :: u88 :: u89 :: u90 :: u91 :: u92 :: u93 :: u94 :: u95 :: u96 :: u97 :: u98 :: u99 :: u100 :: u101 :: u102 :: u103 :: u104 :: u105 :: u106 :: u107 :: u108 :: u109 :: u110 :: u111 :: u112 :: u113 :: u114 :: u115 :: u116 :: u117 :: u118 :: u119 :: u120 :: u121 :: u122 :: u123 :: u124 :: u125 :: u126 :: u127 :: u128 :: u129 :: u130 :: u131 :: u132 :: u133 :: u134 :: u135 :: u136 :: u137 :: u138 :: u139 :: u140 :: u141 :: u142 :: u143 :: u144 :: u145 :: u146 :: u147 :: u148 :: u149 :: u150 :: u151 :: u152 :: u153 :: u154 :: u155 :: u156 :: u157 :: u158 :: u159 :: u160 :: u161 :: u162 :: u163 :: u164 :: u165 :: u166 :: u167 :: u168 :: u169 :: u170 :: u171 :: u172 :: u173 :: u174 :: u175 :: u176 :: u177 :: u178 :: u179 :: u180 :: u181 :: u182 :: u183 :: u184 :: u185 :: u186 :: u187 :: u188 :: u189 :: u190 :: u191 :: u192 :: u193 :: u194 :: u195 :: u196 :: u197 :: u198 :: u199 :: u200 :: u201 :: u202 :: u203 :: c204 :: c205 :: c206 :: c207 :: c208 :: c209 :: c210 :: c211 :: c212 :: c213 :: c214 :: c215 :: c216 :: c217 :: c218 :: c219 :: c220 :: c221 :: []), []⟩ wx)) :
    Code.wp Try.prog PC2_code Q ⟨List.toArray (c0 :: c1 :: .pointer (some ⟨w.heap.size, 0, none⟩) :: c3 :: c4 :: c5 :: c6 :: .pointer (some ⟨b7, 0, none⟩) :: .pointer (some ⟨b8, 0, none⟩) :: c9 :: c10 :: c11 :: c12 :: c13 :: c14 :: c15 :: c16 :: c17 :: c18 :: c19 :: c20 :: c21 :: c22 :: c23 :: c24 :: c25 :: c26 :: c27 :: c28 :: c29 :: c30 :: c31 :: c32 :: c33 :: c34 :: c35 :: c36 :: c37 :: c38 :: c39 :: c40 :: c41 :: c42 :: c43 :: c44 :: c45 :: c46 :: c47 :: c48 :: .int .i64 x.do_ :: c50 :: c51 :: c52 :: c53 :: c54 :: c55 :: c56 :: c57 :: c58 :: c59 :: c60 :: c61 :: c62 :: c63 :: c64 :: c65 :: c66 :: c67 :: c68 :: c69 :: c70 :: c71 :: c72 :: c73 :: c74 :: c75 :: c76 :: c77 :: c78 :: c79 :: c80 :: c81 :: c82 :: c83 :: c84 :: c85 :: c86 :: c87 :: c88 :: c89 :: c90 :: c91 :: c92 :: c93 :: c94 :: c95 :: c96 :: c97 :: c98 :: c99 :: c100 :: c101 :: c102 :: c103 :: c104 :: c105 :: c106 :: c107 :: c108 :: c109 :: c110 :: c111 :: c112 :: c113 :: c114 :: c115 :: c116 :: c117 :: c118 :: c119 :: c120 :: c121 :: c122 :: c123 :: c124 :: c125 :: c126 :: c127 :: c128 :: c129 :: c130 :: c131 :: c132 :: c133 :: c134 :: c135 :: c136 :: c137 :: c138 :: c139 :: c140 :: c141 :: c142 :: c143 :: c144 :: c145 :: c146 :: c147 :: c148 :: c149 :: c150 :: c151 :: c152 :: c153 :: c154 :: c155 :: c156 :: c157 :: c158 :: c159 :: c160 :: c161 :: c162 :: c163 :: c164 :: c165 :: c166 :: c167 :: c168 :: c169 :: c170 :: c171 :: c172 :: c173 :: c174 :: c175 :: c176 :: c177 :: c178 :: c179 :: c180 :: c181 :: c182 :: c183 :: c184 :: c185 :: c186 :: c187 :: c188 :: c189 :: c190 :: c191 :: c192 :: c193 :: c194 :: c195 :: c196 :: c197 :: c198 :: c199 :: c200 :: c201 :: c202 :: c203 :: c204 :: c205 :: c206 :: c207 :: c208 :: c209 :: c210 :: c211 :: c212 :: c213 :: c214 :: c215 :: c216 :: c217 :: c218 :: c219 :: c220 :: c221 :: []), []⟩ w5 := by
  have HRS := Lib.hid (chan_right HR.out)
  have HP := Lib.hid (rightSd (chan_right HR.out).1)
  have hnn : 1 ≤ S.next := HP.out.n0
  have hnm : S.next ≤ 1073741824 := HP.out.n1
  have c_A1 := cell_of_block A1.out
  have f_A1 := frozen_of_block A1.out
  have c_A7 := cell_of_block A7.out
  have f_A7 := frozen_of_block A7.out
  have c_A8 := cell_of_block A8.out
  have f_A8 := frozen_of_block A8.out
  conv => arg 2; whnf
  have z0 : (x.do_ == 0) = true := by simpa using hd
  have HD0 := Lib.hid hd
  clear hd
  obtain ⟨r0, hr0⟩ : ∃ r0, sdRoom S = r0 := ⟨_, rfl⟩
  have HR0 := Lib.hid hr0
  have hr00 : 0 ≤ r0 := by rw [← hr0]; exact (room_bound HP.out).1
  by_cases hpos : 0 < r0
  · obtain ⟨S', hS'⟩ : ∃ S' : Sd, S' = ⟨S.next + 1, S.fl ++ [⟨S.next, x.note, x.now, 1⟩], S.cwnd, S.acc⟩ := ⟨_, rfl⟩
    have HPu := Lib.hid (show sdPush S x.note x.now = (S', ⟨S.next, x.note, x.now, 1⟩, true) by unfold sdPush; rw [hr0, if_neg (by omega), hS'])
    have HR'' := Lib.hid (show sdRight S' = true by rw [hS']; exact right_push HRS.out.1 (by rw [hr0]; exact hpos) e1 e2)
    have HR' := Lib.hid (show chRight ⟨S', q⟩ = true by unfold chRight; simp only [Bool.and_eq_true]; exact ⟨HR''.out, (right_iff q).2 HRS.out.2⟩)
    have HI := Lib.hid (show decide (S'.fl = []) = false by rw [hS']; simp)
    have HSn : Hid (x.do_ = 0 ∨ S'.next = S.next) := Lib.hid (.inl HD0.out)
    clear hr0 hS'
    go_wp2_with fail
    refine (cpush_any S.next _ S.cwnd S.acc q S.fl x.note x.now _ FS.out HRS.out.1 S' ⟨S.next, x.note, x.now, 1⟩ true HPu.out).mono ?_; rintro e w6 ⟨p6, cap6, rfl, O6, B6⟩
    replace A1 := Lib.hid (keepb A1.out B6.out)
    replace c_A1 := cell_of_block A1.out
    replace f_A1 := frozen_of_block A1.out
    replace A7 := Lib.hid (keepb A7.out B6.out)
    replace c_A7 := cell_of_block A7.out
    replace f_A7 := frozen_of_block A7.out
    replace A8 := Lib.hid (keepb A8.out B6.out)
    replace c_A8 := cell_of_block A8.out
    replace f_A8 := frozen_of_block A8.out
    replace BA := Lib.hid (chain BA.out B6.out)
    replace FS := fls_keep FS B6
    have hs6 : w5.heap.size ≤ w6.heap.size := B6.out.size
    have m3 : w.heap.size ≠ w6.heap.size := by omega
    have m4 : w.heap.size ≠ w6.heap.size + 1 := by omega
    go_upto_region 15 with fail
    refine gen_wp (fun w9 => Hid (Below w6.heap.size w6 w9) ∧ Hid (w9.heap[w6.heap.size]? = some (.cells #[.int .i64 S'.next, .slice p6 S'.fl.length cap6, .int .i64 S'.cwnd, .int .i64 S'.acc, .int .i64 q.s, .int .i64 q.v, .int .i64 q.rto, .int .i64 q.fails, .bool q.has] 28)) ∧ Hid (w9.heap[(w6.heap.size + 1)]? = some (.cells #[.int .i64 S.next, .int .i64 x.note.user, .int .i64 x.note.ver, .int .i64 x.note.stat, .int .i64 x.note.cnt, .int .i64 x.now, .int .i64 1] 40)) ∧ Hid (Own 40 7 w5.heap.size w9 (.slice p6 S'.fl.length cap6) S'.fl.length (flat Fl.cells S'.fl)) ∧ True) ⟨Lib.hid (by (repeat (first | (with_reducible exact Below.refl _ _) | (with_reducible refine bel_set (by first | omega | (simp; done) | (simp; omega)) ?_) | (with_reducible refine bel_alloc (by first | omega | (simp; done) | (simp; omega)) ?_) | (with_reducible refine bel_drew ?_) | (with_reducible refine bel_drewN ?_ _))); first | done | fail "left"), Lib.hid (by first | (simp [World.setCell, Array.getElem?_modify, A1.out, A7.out, A8.out]; done) | (simp [World.setCell, Array.getElem?_modify, A1.out, A7.out, A8.out]; omega) | ((repeat (first | (with_reducible exact A1.out) | (with_reducible exact A7.out) | (with_reducible exact A8.out) | (with_reducible exact heap_new _ _ _ (by first | rfl | (simp; done))) | (with_reducible refine keepa ?_ _) | (simp [World.setCell, Array.getElem?_modify, A1.out, A7.out, A8.out]; done))); done)), Lib.hid (by first | (simp [World.setCell, Array.getElem?_modify, A1.out, A7.out, A8.out]; done) | (simp [World.setCell, Array.getElem?_modify, A1.out, A7.out, A8.out]; omega) | ((repeat (first | (with_reducible exact A1.out) | (with_reducible exact A7.out) | (with_reducible exact A8.out) | (with_reducible exact heap_new _ _ _ (by first | rfl | (simp; done))) | (with_reducible refine keepa ?_ _) | (simp [World.setCell, Array.getElem?_modify, A1.out, A7.out, A8.out]; done))); done)), Lib.hid (by (repeat (first | (with_reducible exact O6.out) | (with_reducible refine Own.set ?_ _ _ (by first | omega | (simp; done) | (simp; omega))) | (with_reducible refine Own.alloc ?_ _) | (with_reducible refine Own.drew ?_) | (with_reducible refine Own.drewN ?_ _))); first | done | fail "left"), trivial⟩ ?_
    clear c_A1 f_A1 c_A7 f_A7 c_A8 f_A8
    rintro w9 ⟨N, A11, A12, O9, -⟩
    have c_A11 := cell_of_block A11.out
    have f_A11 := frozen_of_block A11.out
    have c_A12 := cell_of_block A12.out
    have f_A12 := frozen_of_block A12.out
    replace A1 := Lib.hid (keepb A1.out N.out)
    replace c_A1 := cell_of_block A1.out
    replace f_A1 := frozen_of_block A1.out
    replace A7 := Lib.hid (keepb A7.out N.out)
    replace c_A7 := cell_of_block A7.out
    replace f_A7 := frozen_of_block A7.out
    replace A8 := Lib.hid (keepb A8.out N.out)
    replace c_A8 := cell_of_block A8.out
    replace f_A8 := frozen_of_block A8.out
    replace BA := Lib.hid (chain BA.out N.out)
    replace FS := fls_keep FS N
    clear N O6
    go_wp2_with fail
    refine (cidle_at S'.next _ S'.cwnd S'.acc q S'.fl false _ O9.out.sl HI.out).mono ?_; rintro e wa ⟨rfl, BI⟩
    replace A1 := Lib.hid (keepb A1.out BI.out)
    replace c_A1 := cell_of_block A1.out
    replace f_A1 := frozen_of_block A1.out
    replace A7 := Lib.hid (keepb A7.out BI.out)
    replace c_A7 := cell_of_block A7.out
    replace f_A7 := frozen_of_block A7.out
    replace A8 := Lib.hid (keepb A8.out BI.out)
    replace c_A8 := cell_of_block A8.out
    replace f_A8 := frozen_of_block A8.out
    replace A11 := Lib.hid (keepb A11.out BI.out)
    replace c_A11 := cell_of_block A11.out
    replace f_A11 := frozen_of_block A11.out
    replace A12 := Lib.hid (keepb A12.out BI.out)
    replace c_A12 := cell_of_block A12.out
    replace f_A12 := frozen_of_block A12.out
    replace BA := Lib.hid (chain BA.out BI.out)
    replace FS := fls_keep FS BI
    replace O9 := Lib.hid (O9.out.keep BI.out)
    go_wp2_with fail
    refine (croom_any S.next _ S.cwnd S.acc q S.fl r0 _ FS.out HRS.out.1 HR0.out).mono ?_; rintro e wb ⟨rfl, BB⟩
    replace A1 := Lib.hid (keepb A1.out BB.out)
    replace c_A1 := cell_of_block A1.out
    replace f_A1 := frozen_of_block A1.out
    replace A7 := Lib.hid (keepb A7.out BB.out)
    replace c_A7 := cell_of_block A7.out
    replace f_A7 := frozen_of_block A7.out
    replace A8 := Lib.hid (keepb A8.out BB.out)
    replace c_A8 := cell_of_block A8.out
    replace f_A8 := frozen_of_block A8.out
    replace A11 := Lib.hid (keepb A11.out BB.out)
    replace c_A11 := cell_of_block A11.out
    replace f_A11 := frozen_of_block A11.out
    replace A12 := Lib.hid (keepb A12.out BB.out)
    replace c_A12 := cell_of_block A12.out
    replace f_A12 := frozen_of_block A12.out
    replace BA := Lib.hid (chain BA.out BB.out)
    replace O9 := Lib.hid (O9.out.keep BB.out)
    go_wp2_with fail
    exact HQ.out S' q p6 cap6 _ HSn.out HR'.out (by simp [World.setCell, Array.getElem?_modify, A1.out, m3, m3.symm, m4, m4.symm]) (by simp [World.setCell, Array.getElem?_modify, A7.out, m1, m1.symm]) (by simp [World.setCell, Array.getElem?_modify, A8.out, m2, m2.symm]) (by refine Own.sl (E := 40) (B := w5.heap.size) ?_; exact (by (repeat (first | (with_reducible exact O9.out) | (with_reducible refine Own.set ?_ _ _ (by first | omega | (simp; done) | (simp; omega))) | (with_reducible refine Own.alloc ?_ _) | (with_reducible refine Own.drew ?_) | (with_reducible refine Own.drewN ?_ _))); first | done | fail "left")) (by have hbsz := Below.size (BA.out); (repeat (first | (with_reducible exact BA.out) | (with_reducible refine bel_set (by first | omega | (simp; done) | (simp; omega)) ?_) | (with_reducible refine bel_alloc (by first | omega | (simp; done) | (simp; omega)) ?_) | (with_reducible refine bel_drew ?_) | (with_reducible refine bel_drewN ?_ _))); first | done | fail "left") _ _ _ _ _ _ _ _ _ _ _ _ _ _ _ _ _ _ _ _ _ _ _ _ _ _ _ _ _ _ _ _ _ _ _ _ _ _ _ _ _ _ _ _ _ _ _ _ _ _ _ _ _ _ _ _ _ _ _ _ _ _ _ _ _ _ _ _ _ _ _ _ _ _ _ _ _ _ _ _ _ _ _ _ _ _ _ _ _ _ _ _ _ _ _ _ _ _ _ _ _ _ _ _ _ _ _ _ _ _ _ _ _ _ _ _ _ _ _ _ _ _ _ _ _ _ _ _ _ _ _ _ _ _ _ _ _ _ _ _ _ _ _ _ _ _ _ _ _ _ _ _ _ _ _ _ _ _ _ _ _ _ _ _
  · obtain rfl : r0 = 0 := by omega
    obtain ⟨S', hS'⟩ : ∃ S' : Sd, S' = S := ⟨_, rfl⟩
    have HPu := Lib.hid (show sdPush S x.note x.now = (S', fl0, false) by unfold sdPush; rw [hr0, if_pos rfl, hS'])
    have HR' := Lib.hid (show chRight ⟨S', q⟩ = true by rw [hS']; exact HR.out)
    obtain ⟨r0, hr00'⟩ : ∃ r0 : Int, r0 = 0 := ⟨_, rfl⟩
    rw [← hr00'] at HR0
    have g0 := int_rule hr00'
    have d0 := dec_f (show ¬ 0 < r0 by omega)
    have HSn : Hid (x.do_ = 0 ∨ S'.next = S.next) := Lib.hid (.inl HD0.out)
    clear hr0 hS' hr00'
    go_wp2_with fail
    refine (cpush_any S.next _ S.cwnd S.acc q S.fl x.note x.now _ FS.out HRS.out.1 S' fl0 false HPu.out).mono ?_; rintro e w6 ⟨p6, cap6, rfl, O6, B6⟩
    replace A1 := Lib.hid (keepb A1.out B6.out)
    replace c_A1 := cell_of_block A1.out
    replace f_A1 := frozen_of_block A1.out
    replace A7 := Lib.hid (keepb A7.out B6.out)
    replace c_A7 := cell_of_block A7.out
    replace f_A7 := frozen_of_block A7.out
    replace A8 := Lib.hid (keepb A8.out B6.out)
    replace c_A8 := cell_of_block A8.out
    replace f_A8 := frozen_of_block A8.out
    replace BA := Lib.hid (chain BA.out B6.out)
    replace FS := fls_keep FS B6
    have hs6 : w5.heap.size ≤ w6.heap.size := B6.out.size
    have m3 : w.heap.size ≠ w6.heap.size := by omega
    have m4 : w.heap.size ≠ w6.heap.size + 1 := by omega
    go_upto_region 15 with fail
    refine gen_wp (fun w9 => Hid (Below w6.heap.size w6 w9) ∧ Hid (w9.heap[w6.heap.size]? = some (.cells #[.int .i64 S'.next, .slice p6 S'.fl.length cap6, .int .i64 S'.cwnd, .int .i64 S'.acc, .int .i64 q.s, .int .i64 q.v, .int .i64 q.rto, .int .i64 q.fails, .bool q.has] 28)) ∧ Hid (w9.heap[(w6.heap.size + 1)]? = some (.cells #[.int .i64 fl0.seq, .int .i64 fl0.note.user, .int .i64 fl0.note.ver, .int .i64 fl0.note.stat, .int .i64 fl0.note.cnt, .int .i64 fl0.at_, .int .i64 fl0.tries] 40)) ∧ Hid (Own 40 7 w5.heap.size w9 (.slice p6 S'.fl.length cap6) S'.fl.length (flat Fl.cells S'.fl)) ∧ True) ⟨Lib.hid (by (repeat (first | (with_reducible exact Below.refl _ _) | (with_reducible refine bel_set (by first | omega | (simp; done) | (simp; omega)) ?_) | (with_reducible refine bel_alloc (by first | omega | (simp; done) | (simp; omega)) ?_) | (with_reducible refine bel_drew ?_) | (with_reducible refine bel_drewN ?_ _))); first | done | fail "left"), Lib.hid (by first | (simp [World.setCell, Array.getElem?_modify, A1.out, A7.out, A8.out]; done) | (simp [World.setCell, Array.getElem?_modify, A1.out, A7.out, A8.out]; omega) | ((repeat (first | (with_reducible exact A1.out) | (with_reducible exact A7.out) | (with_reducible exact A8.out) | (with_reducible exact heap_new _ _ _ (by first | rfl | (simp; done))) | (with_reducible refine keepa ?_ _) | (simp [World.setCell, Array.getElem?_modify, A1.out, A7.out, A8.out]; done))); done)), Lib.hid (by first | (simp [World.setCell, Array.getElem?_modify, A1.out, A7.out, A8.out]; done) | (simp [World.setCell, Array.getElem?_modify, A1.out, A7.out, A8.out]; omega) | ((repeat (first | (with_reducible exact A1.out) | (with_reducible exact A7.out) | (with_reducible exact A8.out) | (with_reducible exact heap_new _ _ _ (by first | rfl | (simp; done))) | (with_reducible refine keepa ?_ _) | (simp [World.setCell, Array.getElem?_modify, A1.out, A7.out, A8.out]; done))); done)), Lib.hid (by (repeat (first | (with_reducible exact O6.out) | (with_reducible refine Own.set ?_ _ _ (by first | omega | (simp; done) | (simp; omega))) | (with_reducible refine Own.alloc ?_ _) | (with_reducible refine Own.drew ?_) | (with_reducible refine Own.drewN ?_ _))); first | done | fail "left"), trivial⟩ ?_
    clear c_A1 f_A1 c_A7 f_A7 c_A8 f_A8
    rintro w9 ⟨N, A11, A12, O9, -⟩
    have c_A11 := cell_of_block A11.out
    have f_A11 := frozen_of_block A11.out
    have c_A12 := cell_of_block A12.out
    have f_A12 := frozen_of_block A12.out
    replace A1 := Lib.hid (keepb A1.out N.out)
    replace c_A1 := cell_of_block A1.out
    replace f_A1 := frozen_of_block A1.out
    replace A7 := Lib.hid (keepb A7.out N.out)
    replace c_A7 := cell_of_block A7.out
    replace f_A7 := frozen_of_block A7.out
    replace A8 := Lib.hid (keepb A8.out N.out)
    replace c_A8 := cell_of_block A8.out
    replace f_A8 := frozen_of_block A8.out
    replace BA := Lib.hid (chain BA.out N.out)
    replace FS := fls_keep FS N
    clear N O6
    go_wp2_with fail
    refine (croom_any S.next _ S.cwnd S.acc q S.fl r0 _ FS.out HRS.out.1 HR0.out).mono ?_; rintro e wb ⟨rfl, BB⟩
    replace A1 := Lib.hid (keepb A1.out BB.out)
    replace c_A1 := cell_of_block A1.out
    replace f_A1 := frozen_of_block A1.out
    replace A7 := Lib.hid (keepb A7.out BB.out)
    replace c_A7 := cell_of_block A7.out
    replace f_A7 := frozen_of_block A7.out
    replace A8 := Lib.hid (keepb A8.out BB.out)
    replace c_A8 := cell_of_block A8.out
    replace f_A8 := frozen_of_block A8.out
    replace A11 := Lib.hid (keepb A11.out BB.out)
    replace c_A11 := cell_of_block A11.out
    replace f_A11 := frozen_of_block A11.out
    replace A12 := Lib.hid (keepb A12.out BB.out)
    replace c_A12 := cell_of_block A12.out
    replace f_A12 := frozen_of_block A12.out
    replace BA := Lib.hid (chain BA.out BB.out)
    replace O9 := Lib.hid (O9.out.keep BB.out)
    go_wp2_with fail
    exact HQ.out S' q p6 cap6 _ HSn.out HR'.out (by simp [World.setCell, Array.getElem?_modify, A1.out, m3, m3.symm, m4, m4.symm]) (by simp [World.setCell, Array.getElem?_modify, A7.out, m1, m1.symm]) (by simp [World.setCell, Array.getElem?_modify, A8.out, m2, m2.symm]) (by refine Own.sl (E := 40) (B := w5.heap.size) ?_; exact (by (repeat (first | (with_reducible exact O9.out) | (with_reducible refine Own.set ?_ _ _ (by first | omega | (simp; done) | (simp; omega))) | (with_reducible refine Own.alloc ?_ _) | (with_reducible refine Own.drew ?_) | (with_reducible refine Own.drewN ?_ _))); first | done | fail "left")) (by have hbsz := Below.size (BA.out); (repeat (first | (with_reducible exact BA.out) | (with_reducible refine bel_set (by first | omega | (simp; done) | (simp; omega)) ?_) | (with_reducible refine bel_alloc (by first | omega | (simp; done) | (simp; omega)) ?_) | (with_reducible refine bel_drew ?_) | (with_reducible refine bel_drewN ?_ _))); first | done | fail "left") _ _ _ _ _ _ _ _ _ _ _ _ _ _ _ _ _ _ _ _ _ _ _ _ _ _ _ _ _ _ _ _ _ _ _ _ _ _ _ _ _ _ _ _ _ _ _ _ _ _ _ _ _ _ _ _ _ _ _ _ _ _ _ _ _ _ _ _ _ _ _ _ _ _ _ _ _ _ _ _ _ _ _ _ _ _ _ _ _ _ _ _ _ _ _ _ _ _ _ _ _ _ _ _ _ _ _ _ _ _ _ _ _ _ _ _ _ _ _ _ _ _ _ _ _ _ _ _ _ _ _ _ _ _ _ _ _ _ _ _ _ _ _ _ _ _ _ _ _ _ _ _ _ _ _ _ _ _ _ _ _ _ _ _

set_option maxRecDepth 100000 in
set_option maxHeartbeats 8000000 in
theorem cs_ack (x : Ac) (S : Sd) (q : Rt) (p : Option Addr) (cap b7 b8 : Nat) (w w5 : World) (c0 c1 c3 c4 c5 c6 c9 c10 c11 c12 c13 c14 c15 c16 c17 c18 c19 c20 c21 c22 c23 c24 c25 c26 c27 c28 c29 c30 c31 c32 c33 c34 c35 c36 c37 c38 c39 c40 c41 c42 c43 c44 c45 c46 c47 c48 c50 c51 c52 c53 c54 c55 c56 c57 c58 c59 c60 c61 c62 c63 c64 c65 c66 c67 c68 c69 c70 c71 c72 c73 c74 c75 c76 c77 c78 c79 c80 c81 c82 c83 c84 c85 c86 c87 c88 c89 c90 c91 c92 c93 c94 c95 c96 c97 c98 c99 c100 c101 c102 c103 c104 c105 c106 c107 c108 c109 c110 c111 c112 c113 c114 c115 c116 c117 c118 c119 c120 c121 c122 c123 c124 c125 c126 c127 c128 c129 c130 c131 c132 c133 c134 c135 c136 c137 c138 c139 c140 c141 c142 c143 c144 c145 c146 c147 c148 c149 c150 c151 c152 c153 c154 c155 c156 c157 c158 c159 c160 c161 c162 c163 c164 c165 c166 c167 c168 c169 c170 c171 c172 c173 c174 c175 c176 c177 c178 c179 c180 c181 c182 c183 c184 c185 c186 c187 c188 c189 c190 c191 c192 c193 c194 c195 c196 c197 c198 c199 c200 c201 c202 c203 c204 c205 c206 c207 c208 c209 c210 c211 c212 c213 c214 c215 c216 c217 c218 c219 c220 c221 : Value) (Q : Exit → Act → World → Prop) (A1 : Hid (w5.heap[w.heap.size]? = some (.cells #[.int .i64 S.next, .slice p S.fl.length cap, .int .i64 S.cwnd, .int .i64 S.acc, .int .i64 q.s, .int .i64 q.v, .int .i64 q.rto, .int .i64 q.fails, .bool q.has] 28))) (A7 : Hid (w5.heap[b7]? = some (.cells #[.int .i64 x.do_, .int .i64 x.n, .int .i64 x.m, .int .i64 x.now, .int .i64 x.note.user, .int .i64 x.note.ver, .int .i64 x.note.stat, .int .i64 x.note.cnt] 47))) (A8 : Hid (w5.heap[b8]? = some (.cells #[.int .i64 S.next, .slice p S.fl.length cap, .int .i64 S.cwnd, .int .i64 S.acc, .int .i64 q.s, .int .i64 q.v, .int .i64 q.rto, .int .i64 q.fails, .bool q.has] 28))) (FS : Hid (Fls w5 (.slice p S.fl.length cap) S.fl)) (HR : Hid (chRight ⟨S, q⟩ = true)) (BA : Hid (Below w.heap.size w w5)) (m1 : w.heap.size ≠ b7) (m2 : w.heap.size ≠ b8) (hs4 : w.heap.size < w5.heap.size) (e1 : 0 ≤ x.now) (e2 : x.now ≤ 1099511627776) (HXn : Hid (-9223372036854775808 ≤ x.n ∧ x.n ≤ 9223372036854775807)) (hd : x.do_ = 1)
    (HQ : Hid (∀ (S' : Sd) (q' : Rt) (p' : Option Addr) (cap' : Nat) (wx : World), (x.do_ = 0 ∨ S'.next = S.next) → chRight ⟨S', q'⟩ = true → wx.heap[w.heap.size]? = some (.cells #[.int .i64 S'.next, .slice p' S'.fl.length cap', .int .i64 S'.cwnd, .int .i64 S'.acc, .int .i64 q'.s, .int .i64 q'.v, .int .i64 q'.rto, .int .i64 q'.fails, .bool q'.has] 28) → wx.heap[b7]? = some (.cells #[.int .i64 x.do_, .int .i64 x.n, .int .i64 x.m, .int .i64 x.now, .int .i64 x.note.user, .int .i64 x.note.ver, .int .i64 x.note.stat, .int .i64 x.note.cnt] 47) → wx.heap[b8]? = some (.cells #[.int .i64 S.next, .slice p S.fl.length cap, .int .i64 S.cwnd, .int .i64 S.acc, .int .i64 q.s, .int .i64 q.v, .int .i64 q.rto, .int .i64 q.fails, .bool q.has] 28) → Fls wx (.slice p' S'.fl.length cap') S'.fl → Below w.heap.size w wx → ∀ (u4 u9 u10 u11 u12 u13 u14 u15 u16 u17 u50 u51 u52 u53 u54 u55 u56 u57 u58 u59 u60 u61 u62 u63 u64 u65 u66 u67 u68 u69 u70 u71 u72 u73 u74 u75 u76 u77 u78 u79 u80 u81 u82 u83 u84 u85 u86 u87 u88 u89 u90 u91 u92 u93 u94 u95 u96 u97 u98 u99 u100 u101 u102 u103 u104 u105 u106 u107 u108 u109 u110 u111 u112 u113 u114 u115 u116 u117 u118 u119 u120 u121 u122 u123 u124 u125 u126 u127 u128 u129 u130 u131 u132 u133 u134 u135 u136 u137 u138 u139 u140 u141 u142 u143 u144 u145 u146 u147 u148 u149 u150 u151 u152 u153 u154 u155 u156 u157 u158 u159 u160 u161 u162 u163 u164 u165 u166 u167 u168 u169 u170 u171 u172 u173 u174 u175 u176 u177 u178 u179 u180 u181 u182 u183 u184 u185 u186 u187 u188 u189 u190 u191 u192 u193 u194 u195 u196 u197 u198 u199 u200 u201 u202 u203 : Value), Q .normal ⟨List.toArray (c0 :: c1 :: .pointer (some ⟨w.heap.size, 0, none⟩) :: c3 :: u4 :: c5 :: c6 :: .pointer (some ⟨b7, 0, none⟩) :: .pointer (some ⟨b8, 0, none⟩) :: u9 :: u10 :: u11 :: u12 :: u13 :: u14 :: u15 :: u16 :: u17 :: c18 :: c19 :: c20 :: c21 :: c22 :: c23 :: c24 :: c25 :: c26 :: c27 :: c28 :: c29 :: c30 :: c31 :: c32 :: c33 :: c34 :: c35 :: c36 :: c37 :: c38 :: c39 :: c40 :: c41 :: c42 :: c43 :: c44 :: c45 :: c46 :: c47 :: c48 :: .int .i64 x.do_ :: u50 :: u51 :: u52 :: u53 :: u54 :: u55 :: u56 :: u57 :: u58 :: u59 :: u60 :: u61 :: u62 :: u63 :: u64 :: u65 :: u66 :: u67 :: u68 :: u69 :: u70 :: u71 :: u72 :: u73 :: u74 :: u75 :: u76 :: u77 :: u78 :: u79 :: u80 :: u81 :: u82 :: u83 :: u84 :: u85 :: u86 :: u87 :: u88 :: u89 :: u90 :: u91 :: u92 :: u93 :: u94 :: u95 :: u96 :: u97 :: u98 :: u99 :: u100 :: u101 :: u102 :: u103 :: u104 :: u105 :: u106 :: u107 :: u108 :: u109 :: u110 :: u111 :: u112 :: u113 :: u114 :: u115 :: u116 :: u117 :: u118 :: u119 :: u120 :: u121 :: u122 :: u123 :: u124 :: u125 :: u126 :: u127 :: u128 :: u129 :: u130 :: u131 :: u132 :: u133 :: u134 :: u135 :: u136 :: u137 :: u138 :: u139 :: u140 :: u141 :: u142 :: u143 :: u144 :: u145 :: u146 :: u147 :: u148 :: u149 :: u150 :: u151 :: u152 :: u153 :: u154 :: u155 :: u156 :: u157 :: u158 :: u159 :: u160 :: u161 :: u162 :: u163 :: u164 :: u165 :: u166 :: u167 :: u168 :: u169 :: u170 :: u171 :: u172 :: u173 :: u174 :: u175 :: u176 :: u177 :: u178 :: u179 :: u180 :: u181 :: u182 :: u183 :: u184 :: u185 :: u186 :: u187 :: u188 :: u189 :: u190 :: u191 :: u192 :: u193 :: u194 :: u195 :: u196 :: u197 :: u198 :: u199 :: u200 :: u201 :: u202 :: u203 :: c204 :: c205 :: c206 :: c207 :: c208 :: c209 :: c210 :: c211 :: c212 :: c213 :: c214 :: c215 :: c216 :: c217 :: c218 :: c219 :: c220 :: c221 :: []), []⟩ wx)) :
    Code.wp Try.prog PC2_code Q ⟨List.toArray (c0 :: c1 :: .pointer (some ⟨w.heap.size, 0, none⟩) :: c3 :: c4 :: c5 :: c6 :: .pointer (some ⟨b7, 0, none⟩) :: .pointer (some ⟨b8, 0, none⟩) :: c9 :: c10 :: c11 :: c12 :: c13 :: c14 :: c15 :: c16 :: c17 :: c18 :: c19 :: c20 :: c21 :: c22 :: c23 :: c24 :: c25 :: c26 :: c27 :: c28 :: c29 :: c30 :: c31 :: c32 :: c33 :: c34 :: c35 :: c36 :: c37 :: c38 :: c39 :: c40 :: c41 :: c42 :: c43 :: c44 :: c45 :: c46 :: c47 :: c48 :: .int .i64 x.do_ :: c50 :: c51 :: c52 :: c53 :: c54 :: c55 :: c56 :: c57 :: c58 :: c59 :: c60 :: c61 :: c62 :: c63 :: c64 :: c65 :: c66 :: c67 :: c68 :: c69 :: c70 :: c71 :: c72 :: c73 :: c74 :: c75 :: c76 :: c77 :: c78 :: c79 :: c80 :: c81 :: c82 :: c83 :: c84 :: c85 :: c86 :: c87 :: c88 :: c89 :: c90 :: c91 :: c92 :: c93 :: c94 :: c95 :: c96 :: c97 :: c98 :: c99 :: c100 :: c101 :: c102 :: c103 :: c104 :: c105 :: c106 :: c107 :: c108 :: c109 :: c110 :: c111 :: c112 :: c113 :: c114 :: c115 :: c116 :: c117 :: c118 :: c119 :: c120 :: c121 :: c122 :: c123 :: c124 :: c125 :: c126 :: c127 :: c128 :: c129 :: c130 :: c131 :: c132 :: c133 :: c134 :: c135 :: c136 :: c137 :: c138 :: c139 :: c140 :: c141 :: c142 :: c143 :: c144 :: c145 :: c146 :: c147 :: c148 :: c149 :: c150 :: c151 :: c152 :: c153 :: c154 :: c155 :: c156 :: c157 :: c158 :: c159 :: c160 :: c161 :: c162 :: c163 :: c164 :: c165 :: c166 :: c167 :: c168 :: c169 :: c170 :: c171 :: c172 :: c173 :: c174 :: c175 :: c176 :: c177 :: c178 :: c179 :: c180 :: c181 :: c182 :: c183 :: c184 :: c185 :: c186 :: c187 :: c188 :: c189 :: c190 :: c191 :: c192 :: c193 :: c194 :: c195 :: c196 :: c197 :: c198 :: c199 :: c200 :: c201 :: c202 :: c203 :: c204 :: c205 :: c206 :: c207 :: c208 :: c209 :: c210 :: c211 :: c212 :: c213 :: c214 :: c215 :: c216 :: c217 :: c218 :: c219 :: c220 :: c221 :: []), []⟩ w5 := by
  have HRS := Lib.hid (chan_right HR.out)
  have HP := Lib.hid (rightSd (chan_right HR.out).1)
  have hnn : 1 ≤ S.next := HP.out.n0
  have hnm : S.next ≤ 1073741824 := HP.out.n1
  have c_A1 := cell_of_block A1.out
  have f_A1 := frozen_of_block A1.out
  have c_A7 := cell_of_block A7.out
  have f_A7 := frozen_of_block A7.out
  have c_A8 := cell_of_block A8.out
  have f_A8 := frozen_of_block A8.out
  conv => arg 2; whnf
  have z0 : (x.do_ == 0) = false := by simp; omega
  have z1 : (x.do_ == 1) = true := by simpa using hd
  clear hd
  obtain ⟨⟨S', q'⟩, hS'⟩ : ∃ d, chAck ⟨S, q⟩ x.n x.m x.now = d := ⟨_, rfl⟩
  obtain ⟨s1, mm, hsm⟩ : ∃ s1 mm, sdAcked S x.n x.m x.now = (s1, mm) := ⟨_, _, rfl⟩
  obtain ⟨hr1, hr2, -⟩ := acked_facts HRS.out.1 e2 hsm
  have hE : S' = s1 ∧ q' = (if 0 ≤ mm then rttSample q mm else q) := by
    unfold chAck at hS'; simp only [hsm] at hS'; cases hS'; exact ⟨rfl, rfl⟩
  have HR' := Lib.hid (show chRight ⟨S', q'⟩ = true by
    unfold chRight; simp only [Bool.and_eq_true]
    refine ⟨by rw [hE.1]; exact hr1, ?_⟩
    rw [hE.2]; split
    · exact sample_right _ _
    · exact (right_iff q).2 HRS.out.2)
  have HSn : Hid (x.do_ = 0 ∨ S'.next = S.next) := Lib.hid (.inr (by rw [hE.1]; exact hr2))
  have HC := Lib.hid (cack_any S.next (.slice p S.fl.length cap) S.cwnd S.acc q S.fl x.n x.m x.now w5 FS.out HRS.out.1 ⟨e1, e2⟩ ⟨S', q'⟩ hS')
  clear hS' hr1 hr2 hE hsm
  go_wp2_with fail
  refine HC.out.mono ?_; rintro e w6 ⟨p6, cap6, rfl, O6, B6⟩
  simp only at O6 ⊢
  replace A1 := Lib.hid (keepb A1.out B6.out)
  replace c_A1 := cell_of_block A1.out
  replace f_A1 := frozen_of_block A1.out
  replace A7 := Lib.hid (keepb A7.out B6.out)
  replace c_A7 := cell_of_block A7.out
  replace f_A7 := frozen_of_block A7.out
  replace A8 := Lib.hid (keepb A8.out B6.out)
  replace c_A8 := cell_of_block A8.out
  replace f_A8 := frozen_of_block A8.out
  replace BA := Lib.hid (chain BA.out B6.out)
  go_wp2_with fail
  exact HQ.out S' q' p6 cap6 _ HSn.out HR'.out (by simp [World.setCell, Array.getElem?_modify, A1.out]) (by simp [World.setCell, Array.getElem?_modify, A7.out, m1, m1.symm]) (by simp [World.setCell, Array.getElem?_modify, A8.out, m2, m2.symm]) (by refine Own.sl (E := 40) (B := w5.heap.size) ?_; exact (by (repeat (first | (with_reducible exact O6.out) | (with_reducible refine Own.set ?_ _ _ (by first | omega | (simp; done) | (simp; omega))) | (with_reducible refine Own.alloc ?_ _) | (with_reducible refine Own.drew ?_) | (with_reducible refine Own.drewN ?_ _))); first | done | fail "left")) (by have hbsz := Below.size (BA.out); (repeat (first | (with_reducible exact BA.out) | (with_reducible refine bel_set (by first | omega | (simp; done) | (simp; omega)) ?_) | (with_reducible refine bel_alloc (by first | omega | (simp; done) | (simp; omega)) ?_) | (with_reducible refine bel_drew ?_) | (with_reducible refine bel_drewN ?_ _))); first | done | fail "left") _ _ _ _ _ _ _ _ _ _ _ _ _ _ _ _ _ _ _ _ _ _ _ _ _ _ _ _ _ _ _ _ _ _ _ _ _ _ _ _ _ _ _ _ _ _ _ _ _ _ _ _ _ _ _ _ _ _ _ _ _ _ _ _ _ _ _ _ _ _ _ _ _ _ _ _ _ _ _ _ _ _ _ _ _ _ _ _ _ _ _ _ _ _ _ _ _ _ _ _ _ _ _ _ _ _ _ _ _ _ _ _ _ _ _ _ _ _ _ _ _ _ _ _ _ _ _ _ _ _ _ _ _ _ _ _ _ _ _ _ _ _ _ _ _ _ _ _ _ _ _ _ _ _ _ _ _ _ _ _ _ _ _ _

set_option maxRecDepth 100000 in
set_option maxHeartbeats 8000000 in
theorem cs_tick (x : Ac) (S : Sd) (q : Rt) (p : Option Addr) (cap b7 b8 : Nat) (w w5 : World) (c0 c1 c3 c4 c5 c6 c9 c10 c11 c12 c13 c14 c15 c16 c17 c18 c19 c20 c21 c22 c23 c24 c25 c26 c27 c28 c29 c30 c31 c32 c33 c34 c35 c36 c37 c38 c39 c40 c41 c42 c43 c44 c45 c46 c47 c48 c50 c51 c52 c53 c54 c55 c56 c57 c58 c59 c60 c61 c62 c63 c64 c65 c66 c67 c68 c69 c70 c71 c72 c73 c74 c75 c76 c77 c78 c79 c80 c81 c82 c83 c84 c85 c86 c87 c88 c89 c90 c91 c92 c93 c94 c95 c96 c97 c98 c99 c100 c101 c102 c103 c104 c105 c106 c107 c108 c109 c110 c111 c112 c113 c114 c115 c116 c117 c118 c119 c120 c121 c122 c123 c124 c125 c126 c127 c128 c129 c130 c131 c132 c133 c134 c135 c136 c137 c138 c139 c140 c141 c142 c143 c144 c145 c146 c147 c148 c149 c150 c151 c152 c153 c154 c155 c156 c157 c158 c159 c160 c161 c162 c163 c164 c165 c166 c167 c168 c169 c170 c171 c172 c173 c174 c175 c176 c177 c178 c179 c180 c181 c182 c183 c184 c185 c186 c187 c188 c189 c190 c191 c192 c193 c194 c195 c196 c197 c198 c199 c200 c201 c202 c203 c204 c205 c206 c207 c208 c209 c210 c211 c212 c213 c214 c215 c216 c217 c218 c219 c220 c221 : Value) (Q : Exit → Act → World → Prop) (A1 : Hid (w5.heap[w.heap.size]? = some (.cells #[.int .i64 S.next, .slice p S.fl.length cap, .int .i64 S.cwnd, .int .i64 S.acc, .int .i64 q.s, .int .i64 q.v, .int .i64 q.rto, .int .i64 q.fails, .bool q.has] 28))) (A7 : Hid (w5.heap[b7]? = some (.cells #[.int .i64 x.do_, .int .i64 x.n, .int .i64 x.m, .int .i64 x.now, .int .i64 x.note.user, .int .i64 x.note.ver, .int .i64 x.note.stat, .int .i64 x.note.cnt] 47))) (A8 : Hid (w5.heap[b8]? = some (.cells #[.int .i64 S.next, .slice p S.fl.length cap, .int .i64 S.cwnd, .int .i64 S.acc, .int .i64 q.s, .int .i64 q.v, .int .i64 q.rto, .int .i64 q.fails, .bool q.has] 28))) (FS : Hid (Fls w5 (.slice p S.fl.length cap) S.fl)) (HR : Hid (chRight ⟨S, q⟩ = true)) (BA : Hid (Below w.heap.size w w5)) (m1 : w.heap.size ≠ b7) (m2 : w.heap.size ≠ b8) (hs4 : w.heap.size < w5.heap.size) (e1 : 0 ≤ x.now) (e2 : x.now ≤ 1099511627776) (HXn : Hid (-9223372036854775808 ≤ x.n ∧ x.n ≤ 9223372036854775807)) (hd : x.do_ = 2)
    (HQ : Hid (∀ (S' : Sd) (q' : Rt) (p' : Option Addr) (cap' : Nat) (wx : World), (x.do_ = 0 ∨ S'.next = S.next) → chRight ⟨S', q'⟩ = true → wx.heap[w.heap.size]? = some (.cells #[.int .i64 S'.next, .slice p' S'.fl.length cap', .int .i64 S'.cwnd, .int .i64 S'.acc, .int .i64 q'.s, .int .i64 q'.v, .int .i64 q'.rto, .int .i64 q'.fails, .bool q'.has] 28) → wx.heap[b7]? = some (.cells #[.int .i64 x.do_, .int .i64 x.n, .int .i64 x.m, .int .i64 x.now, .int .i64 x.note.user, .int .i64 x.note.ver, .int .i64 x.note.stat, .int .i64 x.note.cnt] 47) → wx.heap[b8]? = some (.cells #[.int .i64 S.next, .slice p S.fl.length cap, .int .i64 S.cwnd, .int .i64 S.acc, .int .i64 q.s, .int .i64 q.v, .int .i64 q.rto, .int .i64 q.fails, .bool q.has] 28) → Fls wx (.slice p' S'.fl.length cap') S'.fl → Below w.heap.size w wx → ∀ (u4 u9 u10 u11 u12 u13 u14 u15 u16 u17 u50 u51 u52 u53 u54 u55 u56 u57 u58 u59 u60 u61 u62 u63 u64 u65 u66 u67 u68 u69 u70 u71 u72 u73 u74 u75 u76 u77 u78 u79 u80 u81 u82 u83 u84 u85 u86 u87 u88 u89 u90 u91 u92 u93 u94 u95 u96 u97 u98 u99 u100 u101 u102 u103 u104 u105 u106 u107 u108 u109 u110 u111 u112 u113 u114 u115 u116 u117 u118 u119 u120 u121 u122 u123 u124 u125 u126 u127 u128 u129 u130 u131 u132 u133 u134 u135 u136 u137 u138 u139 u140 u141 u142 u143 u144 u145 u146 u147 u148 u149 u150 u151 u152 u153 u154 u155 u156 u157 u158 u159 u160 u161 u162 u163 u164 u165 u166 u167 u168 u169 u170 u171 u172 u173 u174 u175 u176 u177 u178 u179 u180 u181 u182 u183 u184 u185 u186 u187 u188 u189 u190 u191 u192 u193 u194 u195 u196 u197 u198 u199 u200 u201 u202 u203 : Value), Q .normal ⟨List.toArray (c0 :: c1 :: .pointer (some ⟨w.heap.size, 0, none⟩) :: c3 :: u4 :: c5 :: c6 :: .pointer (some ⟨b7, 0, none⟩) :: .pointer (some ⟨b8, 0, none⟩) :: u9 :: u10 :: u11 :: u12 :: u13 :: u14 :: u15 :: u16 :: u17 :: c18 :: c19 :: c20 :: c21 :: c22 :: c23 :: c24 :: c25 :: c26 :: c27 :: c28 :: c29 :: c30 :: c31 :: c32 :: c33 :: c34 :: c35 :: c36 :: c37 :: c38 :: c39 :: c40 :: c41 :: c42 :: c43 :: c44 :: c45 :: c46 :: c47 :: c48 :: .int .i64 x.do_ :: u50 :: u51 :: u52 :: u53 :: u54 :: u55 :: u56 :: u57 :: u58 :: u59 :: u60 :: u61 :: u62 :: u63 :: u64 :: u65 :: u66 :: u67 :: u68 :: u69 :: u70 :: u71 :: u72 :: u73 :: u74 :: u75 :: u76 :: u77 :: u78 :: u79 :: u80 :: u81 :: u82 :: u83 :: u84 :: u85 :: u86 :: u87 :: u88 :: u89 :: u90 :: u91 :: u92 :: u93 :: u94 :: u95 :: u96 :: u97 :: u98 :: u99 :: u100 :: u101 :: u102 :: u103 :: u104 :: u105 :: u106 :: u107 :: u108 :: u109 :: u110 :: u111 :: u112 :: u113 :: u114 :: u115 :: u116 :: u117 :: u118 :: u119 :: u120 :: u121 :: u122 :: u123 :: u124 :: u125 :: u126 :: u127 :: u128 :: u129 :: u130 :: u131 :: u132 :: u133 :: u134 :: u135 :: u136 :: u137 :: u138 :: u139 :: u140 :: u141 :: u142 :: u143 :: u144 :: u145 :: u146 :: u147 :: u148 :: u149 :: u150 :: u151 :: u152 :: u153 :: u154 :: u155 :: u156 :: u157 :: u158 :: u159 :: u160 :: u161 :: u162 :: u163 :: u164 :: u165 :: u166 :: u167 :: u168 :: u169 :: u170 :: u171 :: u172 :: u173 :: u174 :: u175 :: u176 :: u177 :: u178 :: u179 :: u180 :: u181 :: u182 :: u183 :: u184 :: u185 :: u186 :: u187 :: u188 :: u189 :: u190 :: u191 :: u192 :: u193 :: u194 :: u195 :: u196 :: u197 :: u198 :: u199 :: u200 :: u201 :: u202 :: u203 :: c204 :: c205 :: c206 :: c207 :: c208 :: c209 :: c210 :: c211 :: c212 :: c213 :: c214 :: c215 :: c216 :: c217 :: c218 :: c219 :: c220 :: c221 :: []), []⟩ wx)) :
    Code.wp Try.prog PC2_code Q ⟨List.toArray (c0 :: c1 :: .pointer (some ⟨w.heap.size, 0, none⟩) :: c3 :: c4 :: c5 :: c6 :: .pointer (some ⟨b7, 0, none⟩) :: .pointer (some ⟨b8, 0, none⟩) :: c9 :: c10 :: c11 :: c12 :: c13 :: c14 :: c15 :: c16 :: c17 :: c18 :: c19 :: c20 :: c21 :: c22 :: c23 :: c24 :: c25 :: c26 :: c27 :: c28 :: c29 :: c30 :: c31 :: c32 :: c33 :: c34 :: c35 :: c36 :: c37 :: c38 :: c39 :: c40 :: c41 :: c42 :: c43 :: c44 :: c45 :: c46 :: c47 :: c48 :: .int .i64 x.do_ :: c50 :: c51 :: c52 :: c53 :: c54 :: c55 :: c56 :: c57 :: c58 :: c59 :: c60 :: c61 :: c62 :: c63 :: c64 :: c65 :: c66 :: c67 :: c68 :: c69 :: c70 :: c71 :: c72 :: c73 :: c74 :: c75 :: c76 :: c77 :: c78 :: c79 :: c80 :: c81 :: c82 :: c83 :: c84 :: c85 :: c86 :: c87 :: c88 :: c89 :: c90 :: c91 :: c92 :: c93 :: c94 :: c95 :: c96 :: c97 :: c98 :: c99 :: c100 :: c101 :: c102 :: c103 :: c104 :: c105 :: c106 :: c107 :: c108 :: c109 :: c110 :: c111 :: c112 :: c113 :: c114 :: c115 :: c116 :: c117 :: c118 :: c119 :: c120 :: c121 :: c122 :: c123 :: c124 :: c125 :: c126 :: c127 :: c128 :: c129 :: c130 :: c131 :: c132 :: c133 :: c134 :: c135 :: c136 :: c137 :: c138 :: c139 :: c140 :: c141 :: c142 :: c143 :: c144 :: c145 :: c146 :: c147 :: c148 :: c149 :: c150 :: c151 :: c152 :: c153 :: c154 :: c155 :: c156 :: c157 :: c158 :: c159 :: c160 :: c161 :: c162 :: c163 :: c164 :: c165 :: c166 :: c167 :: c168 :: c169 :: c170 :: c171 :: c172 :: c173 :: c174 :: c175 :: c176 :: c177 :: c178 :: c179 :: c180 :: c181 :: c182 :: c183 :: c184 :: c185 :: c186 :: c187 :: c188 :: c189 :: c190 :: c191 :: c192 :: c193 :: c194 :: c195 :: c196 :: c197 :: c198 :: c199 :: c200 :: c201 :: c202 :: c203 :: c204 :: c205 :: c206 :: c207 :: c208 :: c209 :: c210 :: c211 :: c212 :: c213 :: c214 :: c215 :: c216 :: c217 :: c218 :: c219 :: c220 :: c221 :: []), []⟩ w5 := by
  have HRS := Lib.hid (chan_right HR.out)
  have HP := Lib.hid (rightSd (chan_right HR.out).1)
  have hnn : 1 ≤ S.next := HP.out.n0
  have hnm : S.next ≤ 1073741824 := HP.out.n1
  have c_A1 := cell_of_block A1.out
  have f_A1 := frozen_of_block A1.out
  have c_A7 := cell_of_block A7.out
  have f_A7 := frozen_of_block A7.out
  have c_A8 := cell_of_block A8.out
  have f_A8 := frozen_of_block A8.out
  conv => arg 2; whnf
  have z0 : (x.do_ == 0) = false := by simp; omega
  have z1 : (x.do_ == 1) = false := by simp; omega
  have z2 : (x.do_ == 2) = true := by simpa using hd
  clear hd
  obtain ⟨⟨S', q'⟩, o, hS'⟩ : ∃ d o, chTick ⟨S, q⟩ x.now x.n = (d, o) := ⟨_, _, rfl⟩
  obtain ⟨hr1, hr2, hr3, hr4, hr5, hr6⟩ := tick_sends HRS.out.1 HRS.out.2 e1 e2 hS'
  simp only at hr1 hr2 hr3 hr5
  have HR' := Lib.hid (show chRight ⟨S', q'⟩ = true by unfold chRight; simp only [Bool.and_eq_true]; exact ⟨hr1, (right_iff q').2 hr2⟩)
  have HSn : Hid (x.do_ = 0 ∨ S'.next = S.next) := Lib.hid (.inr hr3)
  have HOs := Lib.hid hr6
  have HTk := Lib.hid hS'
  obtain ⟨M, hM⟩ : ∃ M : Int, M = max x.n 0 := ⟨_, rfl⟩
  have gM := int_rule (show (if x.n < 0 then 0 else x.n) = M by omega)
  have w1' := dec_f (show ¬ M < (o.length : Int) by omega)
  have HOp := Lib.hid (show (o.length = 0 ∧ decide (0 < o.length) = false) ∨ (decide (0 < o.length) = true ∧ (q'.fails == 0) = false ∧ decide (q'.rto < q.rto) = false) by
    rcases Nat.eq_zero_or_pos o.length with h | h
    · exact .inl ⟨h, by simp [h]⟩
    · refine .inr ⟨by simpa using h, ?_, ?_⟩
      · have := (hr5 h).1; rw [beq_eq_false_iff_ne]; omega
      · have := (hr5 h).2; simpa using this)
  have HOl := Lib.hid (show o.length ≤ 8 by
    unfold chTick at hS'; simp only at hS'
    have h8 : S.fl.length ≤ 8 := HP.out.len
    split at hS'
    · cases hS'; simp
    · cases hS'; rw [tickL_len, List.length_take]
      have := due_len S x.now q.rto
      omega)
  have HFl := Lib.hid (show ∀ f ∈ S.fl, 0 ≤ f.at_ ∧ f.at_ ≤ 1099511627776 from fun f hf => by have := HP.out.fl f hf; omega)
  have r0 : 2 ≤ q.rto := HRS.out.2.r0
  have r1 : q.rto ≤ 64 := HRS.out.2.r1
  clear hS' hr1 hr2 hr3 hr4 hr5 hr6 hM
  go_wp2_with fail
  refine (ctick_any S.next _ S.cwnd S.acc q S.fl x.now x.n _ FS.out HRS.out.1 ⟨e1, e2⟩ ⟨by omega, by omega⟩ HXn.out.2 _ _ HTk.out).mono ?_
  rintro e w6 ⟨p6, cap6, po, capo, rfl, O6, OO, B6⟩
  simp only at O6 ⊢
  replace A1 := Lib.hid (keepb A1.out B6.out)
  replace c_A1 := cell_of_block A1.out
  replace f_A1 := frozen_of_block A1.out
  replace A7 := Lib.hid (keepb A7.out B6.out)
  replace c_A7 := cell_of_block A7.out
  replace f_A7 := frozen_of_block A7.out
  replace A8 := Lib.hid (keepb A8.out B6.out)
  replace c_A8 := cell_of_block A8.out
  replace f_A8 := frozen_of_block A8.out
  replace BA := Lib.hid (chain BA.out B6.out)
  replace FS := fls_keep FS B6
  have hs6 : w5.heap.size ≤ w6.heap.size := B6.out.size
  have m3 : w.heap.size ≠ w6.heap.size := by omega
  go_upto_region 22 with fail
  refine gen_wp (fun w9 => Hid (Below w6.heap.size w6 w9) ∧ Hid (w9.heap[w6.heap.size]? = some (.cells #[.int .i64 S'.next, .slice p6 S'.fl.length cap6, .int .i64 S'.cwnd, .int .i64 S'.acc, .int .i64 q'.s, .int .i64 q'.v, .int .i64 q'.rto, .int .i64 q'.fails, .bool q'.has] 28)) ∧ Hid (Own 40 7 w5.heap.size w9 (.slice p6 S'.fl.length cap6) S'.fl.length (flat Fl.cells S'.fl)) ∧ Hid (Own 40 7 w5.heap.size w9 (.slice po o.length capo) o.length (flat Fl.cells o)) ∧ True) ⟨Lib.hid (by (repeat (first | (with_reducible exact Below.refl _ _) | (with_reducible refine bel_set (by first | omega | (simp; done) | (simp; omega)) ?_) | (with_reducible refine bel_alloc (by first | omega | (simp; done) | (simp; omega)) ?_) | (with_reducible refine bel_drew ?_) | (with_reducible refine bel_drewN ?_ _))); first | done | fail "left"), Lib.hid (by first | (simp [World.setCell, Array.getElem?_modify, A1.out, A7.out, A8.out]; done) | (simp [World.setCell, Array.getElem?_modify, A1.out, A7.out, A8.out]; omega) | ((repeat (first | (with_reducible exact A1.out) | (with_reducible exact A7.out) | (with_reducible exact A8.out) | (with_reducible exact heap_new _ _ _ (by first | rfl | (simp; done))) | (with_reducible refine keepa ?_ _) | (simp [World.setCell, Array.getElem?_modify, A1.out, A7.out, A8.out]; done))); done)), Lib.hid (by (repeat (first | (with_reducible exact O6.out) | (with_reducible refine Own.set ?_ _ _ (by first | omega | (simp; done) | (simp; omega))) | (with_reducible refine Own.alloc ?_ _) | (with_reducible refine Own.drew ?_) | (with_reducible refine Own.drewN ?_ _))); first | done | fail "left"), Lib.hid (by (repeat (first | (with_reducible exact OO.out) | (with_reducible refine Own.set ?_ _ _ (by first | omega | (simp; done) | (simp; omega))) | (with_reducible refine Own.alloc ?_ _) | (with_reducible refine Own.drew ?_) | (with_reducible refine Own.drewN ?_ _))); first | done | fail "left"), trivial⟩ ?_
  clear c_A1 f_A1 c_A7 f_A7 c_A8 f_A8
  rintro w9 ⟨N, A11, O9, OP, -⟩
  have c_A11 := cell_of_block A11.out
  have f_A11 := frozen_of_block A11.out
  replace A1 := Lib.hid (keepb A1.out N.out)
  replace c_A1 := cell_of_block A1.out
  replace f_A1 := frozen_of_block A1.out
  replace A7 := Lib.hid (keepb A7.out N.out)
  replace c_A7 := cell_of_block A7.out
  replace f_A7 := frozen_of_block A7.out
  replace A8 := Lib.hid (keepb A8.out N.out)
  replace c_A8 := cell_of_block A8.out
  replace f_A8 := frozen_of_block A8.out
  replace BA := Lib.hid (chain BA.out N.out)
  replace FS := fls_keep FS N
  have FO : Hid (Fls w9 (.slice po o.length capo) o) := Lib.hid OP.out.sl
  clear N O6 OO OP
  have hcapo : o.length ≤ capo := by obtain ⟨_, _, e, h⟩ := fls_shape FO.out; injection e with e1 e2 e3; omega
  have hcaps : S.fl.length ≤ cap := by obtain ⟨_, _, e, h⟩ := fls_shape FS.out; injection e with e1 e2 e3; omega
  have hol8 : o.length ≤ 8 := HOl.out
  have hsl8 : S.fl.length ≤ 8 := HP.out.len
  go_cut [138] from 113 to 138 (fun s138 wx => s138 = .bool false ∧ w9 = wx)
  case first =>
    rcases HOp.out with ⟨-, y1⟩ | ⟨y1, y2, y3⟩
    all_goals
      go_wp2_with fail
      go_meet
      case rel => exact ⟨rfl, rfl⟩
  case rest =>
    obtain ⟨rfl, rfl⟩ := hcut
    by_cases ho0 : o.length = 0
    · have eo := List.length_eq_zero_iff.1 ho0
      subst eo
      simp only [List.length_nil] at *
      go_wp2_with fail
      go_loopw [14] (fun i wr => i = .int .i64 0 ∧ wr = w9) (fun _ _ => 0)
      case atStart => exact ⟨rfl, rfl⟩
      obtain ⟨rfl, rfl⟩ := hrel
      go_wp2_with fail
      exact HQ.out S' q' p6 cap6 _ HSn.out HR'.out (by simp [World.setCell, Array.getElem?_modify, A1.out, m3, m3.symm]) (by simp [World.setCell, Array.getElem?_modify, A7.out, m1, m1.symm]) (by simp [World.setCell, Array.getElem?_modify, A8.out, m2, m2.symm]) (by refine Own.sl (E := 40) (B := w5.heap.size) ?_; exact (by (repeat (first | (with_reducible exact O9.out) | (with_reducible refine Own.set ?_ _ _ (by first | omega | (simp; done) | (simp; omega))) | (with_reducible refine Own.alloc ?_ _) | (with_reducible refine Own.drew ?_) | (with_reducible refine Own.drewN ?_ _))); first | done | fail "left")) (by have hbsz := Below.size (BA.out); (repeat (first | (with_reducible exact BA.out) | (with_reducible refine bel_set (by first | omega | (simp; done) | (simp; omega)) ?_) | (with_reducible refine bel_alloc (by first | omega | (simp; done) | (simp; omega)) ?_) | (with_reducible refine bel_drew ?_) | (with_reducible refine bel_drewN ?_ _))); first | done | fail "left") _ _ _ _ _ _ _ _ _ _ _ _ _ _ _ _ _ _ _ _ _ _ _ _ _ _ _ _ _ _ _ _ _ _ _ _ _ _ _ _ _ _ _ _ _ _ _ _ _ _ _ _ _ _ _ _ _ _ _ _ _ _ _ _ _ _ _ _ _ _ _ _ _ _ _ _ _ _ _ _ _ _ _ _ _ _ _ _ _ _ _ _ _ _ _ _ _ _ _ _ _ _ _ _ _ _ _ _ _ _ _ _ _ _ _ _ _ _ _ _ _ _ _ _ _ _ _ _ _ _ _ _ _ _ _ _ _ _ _ _ _ _ _ _ _ _ _ _ _ _ _ _ _ _ _ _ _ _ _ _ _ _ _ _
    · obtain ⟨bo, oo, hpo, _⟩ := FO.out.open (by omega)
      subst hpo
      clear ho0
      go_upto_block 3 with fail
      refine cs_outer x S q p cap w.heap.size b7 o bo oo capo w9 _ _ _ _ _ _ _ _ _ _ _ _ _ _ _ _ _ _ _ _ _ _ _ _ _ _ _ _ _ _ _ _ _ _ _ _ _ _ _ _ _ _ _ _ _ _ _ _ _ _ _ _ _ _ _ _ _ _ _ _ _ _ _ _ _ _ _ _ _ _ _ _ _ _ _ _ _ _ _ _ _ _ _ _ _ _ _ _ _ _ _ _ _ _ _ _ _ _ _ _ _ _ _ _ _ _ _ _ _ _ _ _ _ _ _ _ _ _ _ _ _ _ _ _ _ _ _ _ _ _ _ _ _ _ _ _ _ _ _ _ _ _ _ _ _ _ _ _ _ _ _ _ _ _ _ _ _ _ _ _ _ _ _ _ _ _ _ _ _ _ _ _ _ _ _ _ _ _ _ _ _ _ _ _ _ _ _ _ _ _ _ _ _ _ _ _ _ _ _ _ _ _ _ _ _ _ _ _ _ _ _ _ _ _ _ _ _ _ _ A1 A7 FS FO hcaps hcapo hol8 hsl8 HFl r0 r1 e1 e2 HOs ?_
      intro wz hb u4 u14 u15 u16 u17 u139 u140 u141 u142 u143 u144 u145 u146 u147 u148 u149 u150 u151 u152 u153 u154 u155 u156 u157 u158 u159 u160 u161 u162 u163 u164 u165 u166 u167 u168 u169 u170 u171 u172 u173 u174 u175 u176 u177 u178 u179 u180 u181 u182 u183 u184 u185 u186 u187 u188 u189 u190 u191 u192 u193 u194 u195 u196 u197 u198 u199 u200 u201 u202
      have HZ := Lib.hid hb
      have A1r := Lib.hid (keepb A1.out HZ.out)
      have A7r := Lib.hid (keepb A7.out HZ.out)
      have A8r := Lib.hid (keepb A8.out HZ.out)
      have A11r := Lib.hid (keepb A11.out HZ.out)
      have ODr := Lib.hid (O9.out.keep HZ.out)
      have BAr := Lib.hid (chain BA.out HZ.out)
      clear hb c_A1 f_A1 c_A7 f_A7 c_A8 f_A8 c_A11 f_A11
      have c_A1r := cell_of_block A1r.out
      have f_A1r := frozen_of_block A1r.out
      have c_A7r := cell_of_block A7r.out
      have f_A7r := frozen_of_block A7r.out
      have c_A8r := cell_of_block A8r.out
      have f_A8r := frozen_of_block A8r.out
      have c_A11r := cell_of_block A11r.out
      have f_A11r := frozen_of_block A11r.out
      go_wp2_with fail
      exact HQ.out S' q' p6 cap6 _ HSn.out HR'.out (by simp [World.setCell, Array.getElem?_modify, A1r.out, m3, m3.symm]) (by simp [World.setCell, Array.getElem?_modify, A7r.out, m1, m1.symm]) (by simp [World.setCell, Array.getElem?_modify, A8r.out, m2, m2.symm]) (by refine Own.sl (E := 40) (B := w5.heap.size) ?_; exact (by (repeat (first | (with_reducible exact ODr.out) | (with_reducible refine Own.set ?_ _ _ (by first | omega | (simp; done) | (simp; omega))) | (with_reducible refine Own.alloc ?_ _) | (with_reducible refine Own.drew ?_) | (with_reducible refine Own.drewN ?_ _))); first | done | fail "left")) (by have hbsz := Below.size (BAr.out); (repeat (first | (with_reducible exact BAr.out) | (with_reducible refine bel_set (by first | omega | (simp; done) | (simp; omega)) ?_) | (with_reducible refine bel_alloc (by first | omega | (simp; done) | (simp; omega)) ?_) | (with_reducible refine bel_drew ?_) | (with_reducible refine bel_drewN ?_ _))); first | done | fail "left") _ _ _ _ _ _ _ _ _ _ _ _ _ _ _ _ _ _ _ _ _ _ _ _ _ _ _ _ _ _ _ _ _ _ _ _ _ _ _ _ _ _ _ _ _ _ _ _ _ _ _ _ _ _ _ _ _ _ _ _ _ _ _ _ _ _ _ _ _ _ _ _ _ _ _ _ _ _ _ _ _ _ _ _ _ _ _ _ _ _ _ _ _ _ _ _ _ _ _ _ _ _ _ _ _ _ _ _ _ _ _ _ _ _ _ _ _ _ _ _ _ _ _ _ _ _ _ _ _ _ _ _ _ _ _ _ _ _ _ _ _ _ _ _ _ _ _ _ _ _ _ _ _ _ _ _ _ _ _ _ _ _ _ _

set_option maxRecDepth 100000 in
set_option maxHeartbeats 8000000 in
theorem cs_void (x : Ac) (S : Sd) (q : Rt) (p : Option Addr) (cap b7 b8 : Nat) (w w5 : World) (c0 c1 c3 c4 c5 c6 c9 c10 c11 c12 c13 c14 c15 c16 c17 c18 c19 c20 c21 c22 c23 c24 c25 c26 c27 c28 c29 c30 c31 c32 c33 c34 c35 c36 c37 c38 c39 c40 c41 c42 c43 c44 c45 c46 c47 c48 c50 c51 c52 c53 c54 c55 c56 c57 c58 c59 c60 c61 c62 c63 c64 c65 c66 c67 c68 c69 c70 c71 c72 c73 c74 c75 c76 c77 c78 c79 c80 c81 c82 c83 c84 c85 c86 c87 c88 c89 c90 c91 c92 c93 c94 c95 c96 c97 c98 c99 c100 c101 c102 c103 c104 c105 c106 c107 c108 c109 c110 c111 c112 c113 c114 c115 c116 c117 c118 c119 c120 c121 c122 c123 c124 c125 c126 c127 c128 c129 c130 c131 c132 c133 c134 c135 c136 c137 c138 c139 c140 c141 c142 c143 c144 c145 c146 c147 c148 c149 c150 c151 c152 c153 c154 c155 c156 c157 c158 c159 c160 c161 c162 c163 c164 c165 c166 c167 c168 c169 c170 c171 c172 c173 c174 c175 c176 c177 c178 c179 c180 c181 c182 c183 c184 c185 c186 c187 c188 c189 c190 c191 c192 c193 c194 c195 c196 c197 c198 c199 c200 c201 c202 c203 c204 c205 c206 c207 c208 c209 c210 c211 c212 c213 c214 c215 c216 c217 c218 c219 c220 c221 : Value) (Q : Exit → Act → World → Prop) (A1 : Hid (w5.heap[w.heap.size]? = some (.cells #[.int .i64 S.next, .slice p S.fl.length cap, .int .i64 S.cwnd, .int .i64 S.acc, .int .i64 q.s, .int .i64 q.v, .int .i64 q.rto, .int .i64 q.fails, .bool q.has] 28))) (A7 : Hid (w5.heap[b7]? = some (.cells #[.int .i64 x.do_, .int .i64 x.n, .int .i64 x.m, .int .i64 x.now, .int .i64 x.note.user, .int .i64 x.note.ver, .int .i64 x.note.stat, .int .i64 x.note.cnt] 47))) (A8 : Hid (w5.heap[b8]? = some (.cells #[.int .i64 S.next, .slice p S.fl.length cap, .int .i64 S.cwnd, .int .i64 S.acc, .int .i64 q.s, .int .i64 q.v, .int .i64 q.rto, .int .i64 q.fails, .bool q.has] 28))) (FS : Hid (Fls w5 (.slice p S.fl.length cap) S.fl)) (HR : Hid (chRight ⟨S, q⟩ = true)) (BA : Hid (Below w.heap.size w w5)) (m1 : w.heap.size ≠ b7) (m2 : w.heap.size ≠ b8) (hs4 : w.heap.size < w5.heap.size) (e1 : 0 ≤ x.now) (e2 : x.now ≤ 1099511627776) (HXn : Hid (-9223372036854775808 ≤ x.n ∧ x.n ≤ 9223372036854775807)) (hd0 : x.do_ ≠ 0) (hd1 : x.do_ ≠ 1) (hd2 : x.do_ ≠ 2)
    (HQ : Hid (∀ (S' : Sd) (q' : Rt) (p' : Option Addr) (cap' : Nat) (wx : World), (x.do_ = 0 ∨ S'.next = S.next) → chRight ⟨S', q'⟩ = true → wx.heap[w.heap.size]? = some (.cells #[.int .i64 S'.next, .slice p' S'.fl.length cap', .int .i64 S'.cwnd, .int .i64 S'.acc, .int .i64 q'.s, .int .i64 q'.v, .int .i64 q'.rto, .int .i64 q'.fails, .bool q'.has] 28) → wx.heap[b7]? = some (.cells #[.int .i64 x.do_, .int .i64 x.n, .int .i64 x.m, .int .i64 x.now, .int .i64 x.note.user, .int .i64 x.note.ver, .int .i64 x.note.stat, .int .i64 x.note.cnt] 47) → wx.heap[b8]? = some (.cells #[.int .i64 S.next, .slice p S.fl.length cap, .int .i64 S.cwnd, .int .i64 S.acc, .int .i64 q.s, .int .i64 q.v, .int .i64 q.rto, .int .i64 q.fails, .bool q.has] 28) → Fls wx (.slice p' S'.fl.length cap') S'.fl → Below w.heap.size w wx → ∀ (u4 u9 u10 u11 u12 u13 u14 u15 u16 u17 u50 u51 u52 u53 u54 u55 u56 u57 u58 u59 u60 u61 u62 u63 u64 u65 u66 u67 u68 u69 u70 u71 u72 u73 u74 u75 u76 u77 u78 u79 u80 u81 u82 u83 u84 u85 u86 u87 u88 u89 u90 u91 u92 u93 u94 u95 u96 u97 u98 u99 u100 u101 u102 u103 u104 u105 u106 u107 u108 u109 u110 u111 u112 u113 u114 u115 u116 u117 u118 u119 u120 u121 u122 u123 u124 u125 u126 u127 u128 u129 u130 u131 u132 u133 u134 u135 u136 u137 u138 u139 u140 u141 u142 u143 u144 u145 u146 u147 u148 u149 u150 u151 u152 u153 u154 u155 u156 u157 u158 u159 u160 u161 u162 u163 u164 u165 u166 u167 u168 u169 u170 u171 u172 u173 u174 u175 u176 u177 u178 u179 u180 u181 u182 u183 u184 u185 u186 u187 u188 u189 u190 u191 u192 u193 u194 u195 u196 u197 u198 u199 u200 u201 u202 u203 : Value), Q .normal ⟨List.toArray (c0 :: c1 :: .pointer (some ⟨w.heap.size, 0, none⟩) :: c3 :: u4 :: c5 :: c6 :: .pointer (some ⟨b7, 0, none⟩) :: .pointer (some ⟨b8, 0, none⟩) :: u9 :: u10 :: u11 :: u12 :: u13 :: u14 :: u15 :: u16 :: u17 :: c18 :: c19 :: c20 :: c21 :: c22 :: c23 :: c24 :: c25 :: c26 :: c27 :: c28 :: c29 :: c30 :: c31 :: c32 :: c33 :: c34 :: c35 :: c36 :: c37 :: c38 :: c39 :: c40 :: c41 :: c42 :: c43 :: c44 :: c45 :: c46 :: c47 :: c48 :: .int .i64 x.do_ :: u50 :: u51 :: u52 :: u53 :: u54 :: u55 :: u56 :: u57 :: u58 :: u59 :: u60 :: u61 :: u62 :: u63 :: u64 :: u65 :: u66 :: u67 :: u68 :: u69 :: u70 :: u71 :: u72 :: u73 :: u74 :: u75 :: u76 :: u77 :: u78 :: u79 :: u80 :: u81 :: u82 :: u83 :: u84 :: u85 :: u86 :: u87 :: u88 :: u89 :: u90 :: u91 :: u92 :: u93 :: u94 :: u95 :: u96 :: u97 :: u98 :: u99 :: u100 :: u101 :: u102 :: u103 :: u104 :: u105 :: u106 :: u107 :: u108 :: u109 :: u110 :: u111 :: u112 :: u113 :: u114 :: u115 :: u116 :: u117 :: u118 :: u119 :: u120 :: u121 :: u122 :: u123 :: u124 :: u125 :: u126 :: u127 :: u128 :: u129 :: u130 :: u131 :: u132 :: u133 :: u134 :: u135 :: u136 :: u137 :: u138 :: u139 :: u140 :: u141 :: u142 :: u143 :: u144 :: u145 :: u146 :: u147 :: u148 :: u149 :: u150 :: u151 :: u152 :: u153 :: u154 :: u155 :: u156 :: u157 :: u158 :: u159 :: u160 :: u161 :: u162 :: u163 :: u164 :: u165 :: u166 :: u167 :: u168 :: u169 :: u170 :: u171 :: u172 :: u173 :: u174 :: u175 :: u176 :: u177 :: u178 :: u179 :: u180 :: u181 :: u182 :: u183 :: u184 :: u185 :: u186 :: u187 :: u188 :: u189 :: u190 :: u191 :: u192 :: u193 :: u194 :: u195 :: u196 :: u197 :: u198 :: u199 :: u200 :: u201 :: u202 :: u203 :: c204 :: c205 :: c206 :: c207 :: c208 :: c209 :: c210 :: c211 :: c212 :: c213 :: c214 :: c215 :: c216 :: c217 :: c218 :: c219 :: c220 :: c221 :: []), []⟩ wx)) :
    Code.wp Try.prog PC2_code Q ⟨List.toArray (c0 :: c1 :: .pointer (some ⟨w.heap.size, 0, none⟩) :: c3 :: c4 :: c5 :: c6 :: .pointer (some ⟨b7, 0, none⟩) :: .pointer (some ⟨b8, 0, none⟩) :: c9 :: c10 :: c11 :: c12 :: c13 :: c14 :: c15 :: c16 :: c17 :: c18 :: c19 :: c20 :: c21 :: c22 :: c23 :: c24 :: c25 :: c26 :: c27 :: c28 :: c29 :: c30 :: c31 :: c32 :: c33 :: c34 :: c35 :: c36 :: c37 :: c38 :: c39 :: c40 :: c41 :: c42 :: c43 :: c44 :: c45 :: c46 :: c47 :: c48 :: .int .i64 x.do_ :: c50 :: c51 :: c52 :: c53 :: c54 :: c55 :: c56 :: c57 :: c58 :: c59 :: c60 :: c61 :: c62 :: c63 :: c64 :: c65 :: c66 :: c67 :: c68 :: c69 :: c70 :: c71 :: c72 :: c73 :: c74 :: c75 :: c76 :: c77 :: c78 :: c79 :: c80 :: c81 :: c82 :: c83 :: c84 :: c85 :: c86 :: c87 :: c88 :: c89 :: c90 :: c91 :: c92 :: c93 :: c94 :: c95 :: c96 :: c97 :: c98 :: c99 :: c100 :: c101 :: c102 :: c103 :: c104 :: c105 :: c106 :: c107 :: c108 :: c109 :: c110 :: c111 :: c112 :: c113 :: c114 :: c115 :: c116 :: c117 :: c118 :: c119 :: c120 :: c121 :: c122 :: c123 :: c124 :: c125 :: c126 :: c127 :: c128 :: c129 :: c130 :: c131 :: c132 :: c133 :: c134 :: c135 :: c136 :: c137 :: c138 :: c139 :: c140 :: c141 :: c142 :: c143 :: c144 :: c145 :: c146 :: c147 :: c148 :: c149 :: c150 :: c151 :: c152 :: c153 :: c154 :: c155 :: c156 :: c157 :: c158 :: c159 :: c160 :: c161 :: c162 :: c163 :: c164 :: c165 :: c166 :: c167 :: c168 :: c169 :: c170 :: c171 :: c172 :: c173 :: c174 :: c175 :: c176 :: c177 :: c178 :: c179 :: c180 :: c181 :: c182 :: c183 :: c184 :: c185 :: c186 :: c187 :: c188 :: c189 :: c190 :: c191 :: c192 :: c193 :: c194 :: c195 :: c196 :: c197 :: c198 :: c199 :: c200 :: c201 :: c202 :: c203 :: c204 :: c205 :: c206 :: c207 :: c208 :: c209 :: c210 :: c211 :: c212 :: c213 :: c214 :: c215 :: c216 :: c217 :: c218 :: c219 :: c220 :: c221 :: []), []⟩ w5 := by
  have HRS := Lib.hid (chan_right HR.out)
  have HP := Lib.hid (rightSd (chan_right HR.out).1)
  have hnn : 1 ≤ S.next := HP.out.n0
  have hnm : S.next ≤ 1073741824 := HP.out.n1
  have c_A1 := cell_of_block A1.out
  have f_A1 := frozen_of_block A1.out
  have c_A7 := cell_of_block A7.out
  have f_A7 := frozen_of_block A7.out
  have c_A8 := cell_of_block A8.out
  have f_A8 := frozen_of_block A8.out
  conv => arg 2; whnf
  have z0 : (x.do_ == 0) = false := by simpa using hd0
  have z1 : (x.do_ == 1) = false := by simpa using hd1
  have z2 : (x.do_ == 2) = false := by simpa using hd2
  clear hd0 hd1 hd2
  obtain ⟨S', hS'⟩ : ∃ S', S' = sdVoid S x.n := ⟨_, rfl⟩
  have HR' := Lib.hid (show chRight ⟨S', q⟩ = true by unfold chRight; simp only [Bool.and_eq_true]; exact ⟨by rw [hS']; exact right_void HRS.out.1, (right_iff q).2 HRS.out.2⟩)
  have HSn : Hid (x.do_ = 0 ∨ S'.next = S.next) := Lib.hid (.inr (by rw [hS']; rfl))
  have HC := Lib.hid (cvoid_any S.next (.slice p S.fl.length cap) S.cwnd S.acc q S.fl x.n w5 FS.out (by have h8 : S.fl.length ≤ 8 := HP.out.len; omega))
  rw [show (Sd.mk S.next S.fl S.cwnd S.acc) = S from rfl, ← hS'] at HC
  clear hS'
  go_wp2_with fail
  refine HC.out.mono ?_; rintro e w6 ⟨p6, cap6, rfl, O6, B6⟩
  replace A1 := Lib.hid (keepb A1.out B6.out)
  replace c_A1 := cell_of_block A1.out
  replace f_A1 := frozen_of_block A1.out
  replace A7 := Lib.hid (keepb A7.out B6.out)
  replace c_A7 := cell_of_block A7.out
  replace f_A7 := frozen_of_block A7.out
  replace A8 := Lib.hid (keepb A8.out B6.out)
  replace c_A8 := cell_of_block A8.out
  replace f_A8 := frozen_of_block A8.out
  replace BA := Lib.hid (chain BA.out B6.out)
  go_wp2_with fail
  exact HQ.out S' q p6 cap6 _ HSn.out HR'.out (by simp [World.setCell, Array.getElem?_modify, A1.out]) (by simp [World.setCell, Array.getElem?_modify, A7.out, m1, m1.symm]) (by simp [World.setCell, Array.getElem?_modify, A8.out, m2, m2.symm]) (by refine Own.sl (E := 40) (B := w5.heap.size) ?_; exact (by (repeat (first | (with_reducible exact O6.out) | (with_reducible refine Own.set ?_ _ _ (by first | omega | (simp; done) | (simp; omega))) | (with_reducible refine Own.alloc ?_ _) | (with_reducible refine Own.drew ?_) | (with_reducible refine Own.drewN ?_ _))); first | done | fail "left")) (by have hbsz := Below.size (BA.out); (repeat (first | (with_reducible exact BA.out) | (with_reducible refine bel_set (by first | omega | (simp; done) | (simp; omega)) ?_) | (with_reducible refine bel_alloc (by first | omega | (simp; done) | (simp; omega)) ?_) | (with_reducible refine bel_drew ?_) | (with_reducible refine bel_drewN ?_ _))); first | done | fail "left") _ _ _ _ _ _ _ _ _ _ _ _ _ _ _ _ _ _ _ _ _ _ _ _ _ _ _ _ _ _ _ _ _ _ _ _ _ _ _ _ _ _ _ _ _ _ _ _ _ _ _ _ _ _ _ _ _ _ _ _ _ _ _ _ _ _ _ _ _ _ _ _ _ _ _ _ _ _ _ _ _ _ _ _ _ _ _ _ _ _ _ _ _ _ _ _ _ _ _ _ _ _ _ _ _ _ _ _ _ _ _ _ _ _ _ _ _ _ _ _ _ _ _ _ _ _ _ _ _ _ _ _ _ _ _ _ _ _ _ _ _ _ _ _ _ _ _ _ _ _ _ _ _ _ _ _ _ _ _ _ _ _ _ _

set_option maxRecDepth 100000 in
set_option maxHeartbeats 8000000 in
theorem cs_all (x : Ac) (S : Sd) (q : Rt) (p : Option Addr) (cap b7 b8 : Nat) (w w5 : World) (c0 c1 c3 c4 c5 c6 c9 c10 c11 c12 c13 c14 c15 c16 c17 c18 c19 c20 c21 c22 c23 c24 c25 c26 c27 c28 c29 c30 c31 c32 c33 c34 c35 c36 c37 c38 c39 c40 c41 c42 c43 c44 c45 c46 c47 c48 c50 c51 c52 c53 c54 c55 c56 c57 c58 c59 c60 c61 c62 c63 c64 c65 c66 c67 c68 c69 c70 c71 c72 c73 c74 c75 c76 c77 c78 c79 c80 c81 c82 c83 c84 c85 c86 c87 c88 c89 c90 c91 c92 c93 c94 c95 c96 c97 c98 c99 c100 c101 c102 c103 c104 c105 c106 c107 c108 c109 c110 c111 c112 c113 c114 c115 c116 c117 c118 c119 c120 c121 c122 c123 c124 c125 c126 c127 c128 c129 c130 c131 c132 c133 c134 c135 c136 c137 c138 c139 c140 c141 c142 c143 c144 c145 c146 c147 c148 c149 c150 c151 c152 c153 c154 c155 c156 c157 c158 c159 c160 c161 c162 c163 c164 c165 c166 c167 c168 c169 c170 c171 c172 c173 c174 c175 c176 c177 c178 c179 c180 c181 c182 c183 c184 c185 c186 c187 c188 c189 c190 c191 c192 c193 c194 c195 c196 c197 c198 c199 c200 c201 c202 c203 c204 c205 c206 c207 c208 c209 c210 c211 c212 c213 c214 c215 c216 c217 c218 c219 c220 c221 : Value) (Q : Exit → Act → World → Prop) (A1 : Hid (w5.heap[w.heap.size]? = some (.cells #[.int .i64 S.next, .slice p S.fl.length cap, .int .i64 S.cwnd, .int .i64 S.acc, .int .i64 q.s, .int .i64 q.v, .int .i64 q.rto, .int .i64 q.fails, .bool q.has] 28))) (A7 : Hid (w5.heap[b7]? = some (.cells #[.int .i64 x.do_, .int .i64 x.n, .int .i64 x.m, .int .i64 x.now, .int .i64 x.note.user, .int .i64 x.note.ver, .int .i64 x.note.stat, .int .i64 x.note.cnt] 47))) (A8 : Hid (w5.heap[b8]? = some (.cells #[.int .i64 S.next, .slice p S.fl.length cap, .int .i64 S.cwnd, .int .i64 S.acc, .int .i64 q.s, .int .i64 q.v, .int .i64 q.rto, .int .i64 q.fails, .bool q.has] 28))) (FS : Hid (Fls w5 (.slice p S.fl.length cap) S.fl)) (HR : Hid (chRight ⟨S, q⟩ = true)) (BA : Hid (Below w.heap.size w w5)) (m1 : w.heap.size ≠ b7) (m2 : w.heap.size ≠ b8) (hs4 : w.heap.size < w5.heap.size) (e1 : 0 ≤ x.now) (e2 : x.now ≤ 1099511627776) (HXn : Hid (-9223372036854775808 ≤ x.n ∧ x.n ≤ 9223372036854775807)) 
    (HQ : Hid (∀ (S' : Sd) (q' : Rt) (p' : Option Addr) (cap' : Nat) (wx : World), (x.do_ = 0 ∨ S'.next = S.next) → chRight ⟨S', q'⟩ = true → wx.heap[w.heap.size]? = some (.cells #[.int .i64 S'.next, .slice p' S'.fl.length cap', .int .i64 S'.cwnd, .int .i64 S'.acc, .int .i64 q'.s, .int .i64 q'.v, .int .i64 q'.rto, .int .i64 q'.fails, .bool q'.has] 28) → wx.heap[b7]? = some (.cells #[.int .i64 x.do_, .int .i64 x.n, .int .i64 x.m, .int .i64 x.now, .int .i64 x.note.user, .int .i64 x.note.ver, .int .i64 x.note.stat, .int .i64 x.note.cnt] 47) → wx.heap[b8]? = some (.cells #[.int .i64 S.next, .slice p S.fl.length cap, .int .i64 S.cwnd, .int .i64 S.acc, .int .i64 q.s, .int .i64 q.v, .int .i64 q.rto, .int .i64 q.fails, .bool q.has] 28) → Fls wx (.slice p' S'.fl.length cap') S'.fl → Below w.heap.size w wx → ∀ (u4 u9 u10 u11 u12 u13 u14 u15 u16 u17 u50 u51 u52 u53 u54 u55 u56 u57 u58 u59 u60 u61 u62 u63 u64 u65 u66 u67 u68 u69 u70 u71 u72 u73 u74 u75 u76 u77 u78 u79 u80 u81 u82 u83 u84 u85 u86 u87 u88 u89 u90 u91 u92 u93 u94 u95 u96 u97 u98 u99 u100 u101 u102 u103 u104 u105 u106 u107 u108 u109 u110 u111 u112 u113 u114 u115 u116 u117 u118 u119 u120 u121 u122 u123 u124 u125 u126 u127 u128 u129 u130 u131 u132 u133 u134 u135 u136 u137 u138 u139 u140 u141 u142 u143 u144 u145 u146 u147 u148 u149 u150 u151 u152 u153 u154 u155 u156 u157 u158 u159 u160 u161 u162 u163 u164 u165 u166 u167 u168 u169 u170 u171 u172 u173 u174 u175 u176 u177 u178 u179 u180 u181 u182 u183 u184 u185 u186 u187 u188 u189 u190 u191 u192 u193 u194 u195 u196 u197 u198 u199 u200 u201 u202 u203 : Value), Q .normal ⟨List.toArray (c0 :: c1 :: .pointer (some ⟨w.heap.size, 0, none⟩) :: c3 :: u4 :: c5 :: c6 :: .pointer (some ⟨b7, 0, none⟩) :: .pointer (some ⟨b8, 0, none⟩) :: u9 :: u10 :: u11 :: u12 :: u13 :: u14 :: u15 :: u16 :: u17 :: c18 :: c19 :: c20 :: c21 :: c22 :: c23 :: c24 :: c25 :: c26 :: c27 :: c28 :: c29 :: c30 :: c31 :: c32 :: c33 :: c34 :: c35 :: c36 :: c37 :: c38 :: c39 :: c40 :: c41 :: c42 :: c43 :: c44 :: c45 :: c46 :: c47 :: c48 :: .int .i64 x.do_ :: u50 :: u51 :: u52 :: u53 :: u54 :: u55 :: u56 :: u57 :: u58 :: u59 :: u60 :: u61 :: u62 :: u63 :: u64 :: u65 :: u66 :: u67 :: u68 :: u69 :: u70 :: u71 :: u72 :: u73 :: u74 :: u75 :: u76 :: u77 :: u78 :: u79 :: u80 :: u81 :: u82 :: u83 :: u84 :: u85 :: u86 :: u87 :: u88 :: u89 :: u90 :: u91 :: u92 :: u93 :: u94 :: u95 :: u96 :: u97 :: u98 :: u99 :: u100 :: u101 :: u102 :: u103 :: u104 :: u105 :: u106 :: u107 :: u108 :: u109 :: u110 :: u111 :: u112 :: u113 :: u114 :: u115 :: u116 :: u117 :: u118 :: u119 :: u120 :: u121 :: u122 :: u123 :: u124 :: u125 :: u126 :: u127 :: u128 :: u129 :: u130 :: u131 :: u132 :: u133 :: u134 :: u135 :: u136 :: u137 :: u138 :: u139 :: u140 :: u141 :: u142 :: u143 :: u144 :: u145 :: u146 :: u147 :: u148 :: u149 :: u150 :: u151 :: u152 :: u153 :: u154 :: u155 :: u156 :: u157 :: u158 :: u159 :: u160 :: u161 :: u162 :: u163 :: u164 :: u165 :: u166 :: u167 :: u168 :: u169 :: u170 :: u171 :: u172 :: u173 :: u174 :: u175 :: u176 :: u177 :: u178 :: u179 :: u180 :: u181 :: u182 :: u183 :: u184 :: u185 :: u186 :: u187 :: u188 :: u189 :: u190 :: u191 :: u192 :: u193 :: u194 :: u195 :: u196 :: u197 :: u198 :: u199 :: u200 :: u201 :: u202 :: u203 :: c204 :: c205 :: c206 :: c207 :: c208 :: c209 :: c210 :: c211 :: c212 :: c213 :: c214 :: c215 :: c216 :: c217 :: c218 :: c219 :: c220 :: c221 :: []), []⟩ wx)) :
    Code.wp Try.prog PC2_code Q ⟨List.toArray (c0 :: c1 :: .pointer (some ⟨w.heap.size, 0, none⟩) :: c3 :: c4 :: c5 :: c6 :: .pointer (some ⟨b7, 0, none⟩) :: .pointer (some ⟨b8, 0, none⟩) :: c9 :: c10 :: c11 :: c12 :: c13 :: c14 :: c15 :: c16 :: c17 :: c18 :: c19 :: c20 :: c21 :: c22 :: c23 :: c24 :: c25 :: c26 :: c27 :: c28 :: c29 :: c30 :: c31 :: c32 :: c33 :: c34 :: c35 :: c36 :: c37 :: c38 :: c39 :: c40 :: c41 :: c42 :: c43 :: c44 :: c45 :: c46 :: c47 :: c48 :: .int .i64 x.do_ :: c50 :: c51 :: c52 :: c53 :: c54 :: c55 :: c56 :: c57 :: c58 :: c59 :: c60 :: c61 :: c62 :: c63 :: c64 :: c65 :: c66 :: c67 :: c68 :: c69 :: c70 :: c71 :: c72 :: c73 :: c74 :: c75 :: c76 :: c77 :: c78 :: c79 :: c80 :: c81 :: c82 :: c83 :: c84 :: c85 :: c86 :: c87 :: c88 :: c89 :: c90 :: c91 :: c92 :: c93 :: c94 :: c95 :: c96 :: c97 :: c98 :: c99 :: c100 :: c101 :: c102 :: c103 :: c104 :: c105 :: c106 :: c107 :: c108 :: c109 :: c110 :: c111 :: c112 :: c113 :: c114 :: c115 :: c116 :: c117 :: c118 :: c119 :: c120 :: c121 :: c122 :: c123 :: c124 :: c125 :: c126 :: c127 :: c128 :: c129 :: c130 :: c131 :: c132 :: c133 :: c134 :: c135 :: c136 :: c137 :: c138 :: c139 :: c140 :: c141 :: c142 :: c143 :: c144 :: c145 :: c146 :: c147 :: c148 :: c149 :: c150 :: c151 :: c152 :: c153 :: c154 :: c155 :: c156 :: c157 :: c158 :: c159 :: c160 :: c161 :: c162 :: c163 :: c164 :: c165 :: c166 :: c167 :: c168 :: c169 :: c170 :: c171 :: c172 :: c173 :: c174 :: c175 :: c176 :: c177 :: c178 :: c179 :: c180 :: c181 :: c182 :: c183 :: c184 :: c185 :: c186 :: c187 :: c188 :: c189 :: c190 :: c191 :: c192 :: c193 :: c194 :: c195 :: c196 :: c197 :: c198 :: c199 :: c200 :: c201 :: c202 :: c203 :: c204 :: c205 :: c206 :: c207 :: c208 :: c209 :: c210 :: c211 :: c212 :: c213 :: c214 :: c215 :: c216 :: c217 :: c218 :: c219 :: c220 :: c221 :: []), []⟩ w5 := by
  rcases (show x.do_ = 0 ∨ x.do_ = 1 ∨ x.do_ = 2 ∨ (x.do_ ≠ 0 ∧ x.do_ ≠ 1 ∧ x.do_ ≠ 2) by omega) with hd | hd | hd | ⟨hd0, hd1, hd2⟩
  · exact cs_push x S q p cap b7 b8 w w5 c0 c1 c3 c4 c5 c6 c9 c10 c11 c12 c13 c14 c15 c16 c17 c18 c19 c20 c21 c22 c23 c24 c25 c26 c27 c28 c29 c30 c31 c32 c33 c34 c35 c36 c37 c38 c39 c40 c41 c42 c43 c44 c45 c46 c47 c48 c50 c51 c52 c53 c54 c55 c56 c57 c58 c59 c60 c61 c62 c63 c64 c65 c66 c67 c68 c69 c70 c71 c72 c73 c74 c75 c76 c77 c78 c79 c80 c81 c82 c83 c84 c85 c86 c87 c88 c89 c90 c91 c92 c93 c94 c95 c96 c97 c98 c99 c100 c101 c102 c103 c104 c105 c106 c107 c108 c109 c110 c111 c112 c113 c114 c115 c116 c117 c118 c119 c120 c121 c122 c123 c124 c125 c126 c127 c128 c129 c130 c131 c132 c133 c134 c135 c136 c137 c138 c139 c140 c141 c142 c143 c144 c145 c146 c147 c148 c149 c150 c151 c152 c153 c154 c155 c156 c157 c158 c159 c160 c161 c162 c163 c164 c165 c166 c167 c168 c169 c170 c171 c172 c173 c174 c175 c176 c177 c178 c179 c180 c181 c182 c183 c184 c185 c186 c187 c188 c189 c190 c191 c192 c193 c194 c195 c196 c197 c198 c199 c200 c201 c202 c203 c204 c205 c206 c207 c208 c209 c210 c211 c212 c213 c214 c215 c216 c217 c218 c219 c220 c221 Q A1 A7 A8 FS HR BA m1 m2 hs4 e1 e2 HXn hd HQ
  · exact cs_ack x S q p cap b7 b8 w w5 c0 c1 c3 c4 c5 c6 c9 c10 c11 c12 c13 c14 c15 c16 c17 c18 c19 c20 c21 c22 c23 c24 c25 c26 c27 c28 c29 c30 c31 c32 c33 c34 c35 c36 c37 c38 c39 c40 c41 c42 c43 c44 c45 c46 c47 c48 c50 c51 c52 c53 c54 c55 c56 c57 c58 c59 c60 c61 c62 c63 c64 c65 c66 c67 c68 c69 c70 c71 c72 c73 c74 c75 c76 c77 c78 c79 c80 c81 c82 c83 c84 c85 c86 c87 c88 c89 c90 c91 c92 c93 c94 c95 c96 c97 c98 c99 c100 c101 c102 c103 c104 c105 c106 c107 c108 c109 c110 c111 c112 c113 c114 c115 c116 c117 c118 c119 c120 c121 c122 c123 c124 c125 c126 c127 c128 c129 c130 c131 c132 c133 c134 c135 c136 c137 c138 c139 c140 c141 c142 c143 c144 c145 c146 c147 c148 c149 c150 c151 c152 c153 c154 c155 c156 c157 c158 c159 c160 c161 c162 c163 c164 c165 c166 c167 c168 c169 c170 c171 c172 c173 c174 c175 c176 c177 c178 c179 c180 c181 c182 c183 c184 c185 c186 c187 c188 c189 c190 c191 c192 c193 c194 c195 c196 c197 c198 c199 c200 c201 c202 c203 c204 c205 c206 c207 c208 c209 c210 c211 c212 c213 c214 c215 c216 c217 c218 c219 c220 c221 Q A1 A7 A8 FS HR BA m1 m2 hs4 e1 e2 HXn hd HQ
  · exact cs_tick x S q p cap b7 b8 w w5 c0 c1 c3 c4 c5 c6 c9 c10 c11 c12 c13 c14 c15 c16 c17 c18 c19 c20 c21 c22 c23 c24 c25 c26 c27 c28 c29 c30 c31 c32 c33 c34 c35 c36 c37 c38 c39 c40 c41 c42 c43 c44 c45 c46 c47 c48 c50 c51 c52 c53 c54 c55 c56 c57 c58 c59 c60 c61 c62 c63 c64 c65 c66 c67 c68 c69 c70 c71 c72 c73 c74 c75 c76 c77 c78 c79 c80 c81 c82 c83 c84 c85 c86 c87 c88 c89 c90 c91 c92 c93 c94 c95 c96 c97 c98 c99 c100 c101 c102 c103 c104 c105 c106 c107 c108 c109 c110 c111 c112 c113 c114 c115 c116 c117 c118 c119 c120 c121 c122 c123 c124 c125 c126 c127 c128 c129 c130 c131 c132 c133 c134 c135 c136 c137 c138 c139 c140 c141 c142 c143 c144 c145 c146 c147 c148 c149 c150 c151 c152 c153 c154 c155 c156 c157 c158 c159 c160 c161 c162 c163 c164 c165 c166 c167 c168 c169 c170 c171 c172 c173 c174 c175 c176 c177 c178 c179 c180 c181 c182 c183 c184 c185 c186 c187 c188 c189 c190 c191 c192 c193 c194 c195 c196 c197 c198 c199 c200 c201 c202 c203 c204 c205 c206 c207 c208 c209 c210 c211 c212 c213 c214 c215 c216 c217 c218 c219 c220 c221 Q A1 A7 A8 FS HR BA m1 m2 hs4 e1 e2 HXn hd HQ
  · exact cs_void x S q p cap b7 b8 w w5 c0 c1 c3 c4 c5 c6 c9 c10 c11 c12 c13 c14 c15 c16 c17 c18 c19 c20 c21 c22 c23 c24 c25 c26 c27 c28 c29 c30 c31 c32 c33 c34 c35 c36 c37 c38 c39 c40 c41 c42 c43 c44 c45 c46 c47 c48 c50 c51 c52 c53 c54 c55 c56 c57 c58 c59 c60 c61 c62 c63 c64 c65 c66 c67 c68 c69 c70 c71 c72 c73 c74 c75 c76 c77 c78 c79 c80 c81 c82 c83 c84 c85 c86 c87 c88 c89 c90 c91 c92 c93 c94 c95 c96 c97 c98 c99 c100 c101 c102 c103 c104 c105 c106 c107 c108 c109 c110 c111 c112 c113 c114 c115 c116 c117 c118 c119 c120 c121 c122 c123 c124 c125 c126 c127 c128 c129 c130 c131 c132 c133 c134 c135 c136 c137 c138 c139 c140 c141 c142 c143 c144 c145 c146 c147 c148 c149 c150 c151 c152 c153 c154 c155 c156 c157 c158 c159 c160 c161 c162 c163 c164 c165 c166 c167 c168 c169 c170 c171 c172 c173 c174 c175 c176 c177 c178 c179 c180 c181 c182 c183 c184 c185 c186 c187 c188 c189 c190 c191 c192 c193 c194 c195 c196 c197 c198 c199 c200 c201 c202 c203 c204 c205 c206 c207 c208 c209 c210 c211 c212 c213 c214 c215 c216 c217 c218 c219 c220 c221 Q A1 A7 A8 FS HR BA m1 m2 hs4 e1 e2 HXn hd0 hd1 hd2 HQ
end Go.Proofs.Yteilgibfmljoeaa.K
