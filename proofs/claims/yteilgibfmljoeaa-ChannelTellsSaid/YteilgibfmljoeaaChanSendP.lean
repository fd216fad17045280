/-
  ChannelSends: the loops over what is sent again (blocks 3, 5), whatever the frame.
-/
import Derived.Test.YteilgibfmljoeaaChanRead
import Derived.Test.YteilgibfmljoeaaBox
import Derived.Deep.DeepCutAuto
import Derived.Deep.CutBlock
import Derived.Deep.Light
set_option linter.unusedVariables false
set_option linter.unusedSimpArgs false
namespace Go.Proofs.Yteilgibfmljoeaa.K
open Go Go.RowKit Nj

theorem resend_ids {q now : Int} : ∀ {l : List Fl} {x : List Fl × Fl}, flResend q now l = some x → x.1.map (fun f => (f.seq, f.note)) = l.map (fun f => (f.seq, f.note)) ∧ x.2.at_ = now ∧ x.2.seq = q ∧ (x.2.seq, x.2.note) ∈ l.map (fun f => (f.seq, f.note))
  | [], _, h => by simp [flResend] at h
  | f :: l, x, h => by
    unfold flResend at h
    split at h
    · rename_i e
      cases h
      refine ⟨rfl, rfl, e, ?_⟩
      simp [flAgain]
    · rw [Option.map_eq_some_iff] at h
      obtain ⟨y, hy, rfl⟩ := h
      have ih := resend_ids hy
      refine ⟨by simp [ih.1], ih.2.1, ih.2.2.1, ?_⟩
      simp only [List.map_cons, List.mem_cons]
      exact .inr ih.2.2.2
theorem resend_has {q now : Int} : ∀ {l : List Fl}, q ∈ l.map (·.seq) → ∃ x, flResend q now l = some x
  | [], h => by simp at h
  | f :: l, h => by
    unfold flResend
    split
    · exact ⟨_, rfl⟩
    · rename_i e
      obtain ⟨x, hx⟩ := resend_has (l := l) (by simpa [Ne.symm e] using h)
      exact ⟨_, by rw [hx]; rfl⟩
theorem seqs_of_ids {l m : List Fl} (h : l.map (fun f => (f.seq, f.note)) = m.map (fun f => (f.seq, f.note))) : l.map (·.seq) = m.map (·.seq) := by
  have := congrArg (List.map Prod.fst) h
  simpa [List.map_map, Function.comp_def] using this
/-- what a tick sends again is of the row, as it was sent -/
theorem tick_ids {now : Int} (l0 : List Fl) : ∀ (due : List Int) (s : Sd), s.fl.map (fun f => (f.seq, f.note)) = l0.map (fun f => (f.seq, f.note)) → (∀ q ∈ due, q ∈ l0.map (·.seq)) →
    ∀ k (hk : k < (tickL now s due).2.length), (tickL now s due).2[k].at_ = now ∧ (tickL now s due).2[k].seq ∈ due ∧ ((tickL now s due).2[k].seq, (tickL now s due).2[k].note) ∈ l0.map (fun f => (f.seq, f.note))
  | [], s, _, _, k, hk => by simp [tickL] at hk
  | q :: due, s, hs, hd, k, hk => by
    obtain ⟨x, hx⟩ := resend_has (q := q) (now := now) (l := s.fl) (by rw [seqs_of_ids hs]; exact hd q (by simp))
    have hi := resend_ids hx
    have e : sdResend s q now = (⟨s.next, x.1, s.cwnd, s.acc⟩, x.2, true) := by unfold sdResend; rw [hx]
    simp only [tickL, e] at hk ⊢
    cases k with
    | zero =>
      simp only [List.getElem_cons_zero]
      refine ⟨hi.2.1, by rw [hi.2.2.1]; simp, ?_⟩
      rw [← hs]; exact hi.2.2.2
    | succ k =>
      simp only [List.getElem_cons_succ]
      have ih := tick_ids l0 due ⟨s.next, x.1, s.cwnd, s.acc⟩ (by simpa [hs] using hi.1.trans hs) (fun q hq => hd q (by simp [hq])) k (by simpa using hk)
      exact ⟨ih.1, by simp [ih.2.1], ih.2.2⟩
theorem seq_one {n c a : Int} {l : List Fl} (h : sdRight ⟨n, l, c, a⟩ = true) {f g : Fl} (hf : f ∈ l) (hg : g ∈ l) (e : f.seq = g.seq) : f = g := by
  have hc : flChain n 0 l = true := by simp only [sdRight, Bool.and_eq_true] at h; exact h.1
  obtain ⟨i, hi, rfl⟩ := List.getElem_of_mem hf
  obtain ⟨j, hj, rfl⟩ := List.getElem_of_mem hg
  rcases Nat.lt_trichotomy i j with h1 | h1 | h1
  · have := (chain_lt hc j hj).2 i h1; omega
  · subst h1; rfl
  · have := (chain_lt hc i hi).2 j h1; omega
/-- what the law asks of a tick -/
theorem tick_sends {n c a : Int} {l : List Fl} {r : Rt} {now most : Int} (hR : sdRight ⟨n, l, c, a⟩ = true) (hr : RtOk r) (n0 : 0 ≤ now) (n1 : now ≤ 1099511627776) {d : Ch} {o : List Fl} (h : chTick ⟨⟨n, l, c, a⟩, r⟩ now most = (d, o)) :
    sdRight d.send = true ∧ RtOk d.rtt ∧ d.send.next = n ∧ (o.length : Int) ≤ max most 0 ∧ (0 < o.length → 0 < d.rtt.fails ∧ r.rto ≤ d.rtt.rto) ∧
    ∀ k (hk : k < o.length), o[k].at_ = now ∧ ∃ f ∈ l, f.seq = o[k].seq ∧ f.note = o[k].note ∧ f.at_ + r.rto ≤ now := by
  unfold chTick at h
  simp only at h
  split at h
  · cases h
    exact ⟨hR, hr, rfl, by simp; omega, fun h => by simp at h, fun k hk => by simp at hk⟩
  · rename_i hb
    cases h
    have ht := tickL_right n0 n1 ((sdDue ⟨n, l, c, a⟩ now r.rto).take most.toNat) _ (right_lost hR)
    have hdue : ∀ q ∈ (sdDue ⟨n, l, c, a⟩ now r.rto).take most.toNat, ∃ f ∈ l, f.seq = q ∧ f.at_ + r.rto ≤ now := by
      intro q hq
      have := List.mem_of_mem_take hq
      unfold sdDue at this
      obtain ⟨f, hf, rfl⟩ := List.mem_map.1 this
      obtain ⟨h1, h2⟩ := List.mem_filter.1 hf
      exact ⟨f, h1, rfl, by simpa using h2⟩
    refine ⟨ht.1, backoff_ok r, ht.2.1, ?_, fun _ => ?_, fun k hk => ?_⟩
    · rw [tickL_len, List.length_take]; omega
    · unfold rttBackoff
      rw [norm_of_right ((right_iff r).2 hr)]
      have := hr.f0; have := hr.r1; have := hr.r0
      simp only [rttFail]; omega
    · obtain ⟨h1, h2, h3⟩ := tick_ids l _ _ rfl (fun q hq => by obtain ⟨f, hf, e, _⟩ := hdue q hq; exact List.mem_map.2 ⟨f, hf, e⟩) k hk
      obtain ⟨f, hf, e1, e2⟩ := hdue _ h2
      obtain ⟨g, hg, e3⟩ := List.mem_map.1 h3
      simp only [Prod.mk.injEq] at e3
      have : f = g := seq_one hR hf hg (by rw [e1, e3.1])
      subst this
      exact ⟨h1, f, hf, e3.1, e3.2, e2⟩
/-- whether a flight is the one sent again -/
def wasIt (q : Fl) (rto now : Int) (f : Fl) : Bool := decide (f.seq = q.seq) && (decide (f.note = q.note) && decide (f.at_ + rto ≤ now))

theorem any_step {l : List Fl} {q : Fl → Bool} {j : Nat} (hj : j < l.length) : (l.take (j + 1)).any q = ((l.take j).any q || q l[j]) := by
  rw [List.take_add_one, List.getElem?_eq_getElem hj, List.any_append]
  simp
theorem any_all {l : List Fl} {q : Fl → Bool} {f : Fl} (hf : f ∈ l) (hq : q f = true) : (l.take l.length).any q = true := by
  rw [List.take_length]; exact List.any_eq_true.2 ⟨f, hf, hq⟩

theorem eql_nt (x y : Nt) (w : World) :
    (binOp .eql 38 (.agg #[.int .i64 x.user, .int .i64 x.ver, .int .i64 x.stat, .int .i64 x.cnt]) (.agg #[.int .i64 y.user, .int .i64 y.ver, .int .i64 y.stat, .int .i64 y.cnt])).run Try.prog w = .ok (.bool (decide (x = y))) w := by
  go_simp
  have e : (x = y) ↔ x.user = y.user ∧ x.ver = y.ver ∧ x.stat = y.stat ∧ x.cnt = y.cnt := by
    obtain ⟨b, c, d, e⟩ := x; obtain ⟨b', c', d', e'⟩ := y; simp
  simp only [e]
  (repeat' split) <;> simp_all

noncomputable def PC5_code : Code := ((Try.f7.body.bind (findB 5)).getD .skip)

set_option maxRecDepth 100000 in
set_option maxHeartbeats 8000000 in
theorem cs_inner (x : Ac) (S : Sd) (q : Rt) (p : Option Addr) (cap b2 b7 : Nat) (o : List Fl) (bo oo capo : Nat) (j : Nat) (g : Fl) (w0 : World) (c0 c1 c3 c4 c5 c6 c8 c9 c10 c11 c12 c17 c18 c19 c20 c21 c22 c23 c24 c25 c26 c27 c28 c29 c30 c31 c32 c33 c34 c35 c36 c37 c38 c39 c40 c41 c42 c43 c44 c45 c46 c47 c48 c49 c50 c51 c52 c53 c54 c55 c56 c57 c58 c59 c60 c61 c62 c63 c64 c65 c66 c67 c68 c69 c70 c71 c72 c73 c74 c75 c76 c77 c78 c79 c80 c81 c82 c83 c84 c85 c86 c87 c88 c89 c90 c91 c92 c93 c94 c95 c96 c97 c98 c99 c100 c101 c102 c103 c104 c105 c106 c107 c108 c109 c110 c111 c112 c113 c114 c115 c116 c117 c118 c119 c120 c121 c122 c123 c124 c125 c126 c127 c128 c129 c130 c131 c132 c133 c134 c135 c136 c137 c138 c139 c140 c141 c142 c143 c144 c145 c146 c147 c148 c149 c150 c151 c152 c153 c154 c155 c156 c157 c158 c159 c160 c161 c162 c163 c164 c165 c166 c167 c168 c169 c170 c171 c172 c173 c174 c175 c176 c177 c178 c179 c180 c181 c182 c183 c184 c185 c186 c187 c188 c189 c190 c191 c192 c193 c194 c195 c196 c197 c198 c199 c200 c201 c202 c203 c204 c205 c206 c207 c208 c209 c210 c211 c212 c213 c214 c215 c216 c217 c218 c219 c220 c221 : Value) (Q : Exit → Act → World → Prop) (A1 : Hid (w0.heap[b2]? = some (.cells #[.int .i64 S.next, .slice p S.fl.length cap, .int .i64 S.cwnd, .int .i64 S.acc, .int .i64 q.s, .int .i64 q.v, .int .i64 q.rto, .int .i64 q.fails, .bool q.has] 28))) (A7 : Hid (w0.heap[b7]? = some (.cells #[.int .i64 x.do_, .int .i64 x.n, .int .i64 x.m, .int .i64 x.now, .int .i64 x.note.user, .int .i64 x.note.ver, .int .i64 x.note.stat, .int .i64 x.note.cnt] 47))) (FS : Hid (Fls w0 (.slice p S.fl.length cap) S.fl)) (FO : Hid (Fls w0 (.slice (some ⟨bo, oo, none⟩) o.length capo) o)) (hcaps : S.fl.length ≤ cap) (hcapo : o.length ≤ capo) (hol8 : o.length ≤ 8) (hsl8 : S.fl.length ≤ 8) (HFl : Hid (∀ f ∈ S.fl, 0 ≤ f.at_ ∧ f.at_ ≤ 1099511627776)) (r0 : 2 ≤ q.rto) (r1 : q.rto ≤ 64) (e1 : 0 ≤ x.now) (e2 : x.now ≤ 1099511627776) (hjt : j < o.length) (HG : Hid (g = o[j])) (HAll : Hid ((S.fl.take S.fl.length).any (wasIt g q.rto x.now) = true))
    (hQ : ∀ wx : World, Below w0.heap.size w0 wx → ∀ (u16 u17 u145 u146 u147 u148 u149 u150 u151 u152 u153 u154 u155 u156 u157 u158 u159 u160 u161 u162 u163 u164 u165 u166 u167 u168 u169 u170 u171 u172 u173 u174 u175 u176 u177 u178 u179 u180 u181 u182 u183 u184 u185 u186 u187 u188 u189 u190 : Value), Q .normal ⟨List.toArray (c0 :: c1 :: .pointer (some ⟨b2, 0, none⟩) :: c3 :: c4 :: c5 :: c6 :: .pointer (some ⟨b7, 0, none⟩) :: c8 :: c9 :: c10 :: c11 :: c12 :: .slice (some ⟨bo, oo, none⟩) o.length capo :: .int .i64 j :: .bool true :: u16 :: u17 :: c18 :: c19 :: c20 :: c21 :: c22 :: c23 :: c24 :: c25 :: c26 :: c27 :: c28 :: c29 :: c30 :: c31 :: c32 :: c33 :: c34 :: c35 :: c36 :: c37 :: c38 :: c39 :: c40 :: c41 :: c42 :: c43 :: c44 :: c45 :: c46 :: c47 :: c48 :: c49 :: c50 :: c51 :: c52 :: c53 :: c54 :: c55 :: c56 :: c57 :: c58 :: c59 :: c60 :: c61 :: c62 :: c63 :: c64 :: c65 :: c66 :: c67 :: c68 :: c69 :: c70 :: c71 :: c72 :: c73 :: c74 :: c75 :: c76 :: c77 :: c78 :: c79 :: c80 :: c81 :: c82 :: c83 :: c84 :: c85 :: c86 :: c87 :: c88 :: c89 :: c90 :: c91 :: c92 :: c93 :: c94 :: c95 :: c96 :: c97 :: c98 :: c99 :: c100 :: c101 :: c102 :: c103 :: c104 :: c105 :: c106 :: c107 :: c108 :: c109 :: c110 :: c111 :: c112 :: c113 :: c114 :: c115 :: c116 :: c117 :: c118 :: c119 :: c120 :: c121 :: c122 :: c123 :: c124 :: c125 :: c126 :: c127 :: c128 :: c129 :: c130 :: c131 :: c132 :: c133 :: c134 :: c135 :: c136 :: c137 :: c138 :: c139 :: c140 :: c141 :: c142 :: c143 :: c144 :: u145 :: u146 :: u147 :: u148 :: u149 :: u150 :: u151 :: u152 :: u153 :: u154 :: u155 :: u156 :: u157 :: u158 :: u159 :: u160 :: u161 :: u162 :: u163 :: u164 :: u165 :: u166 :: u167 :: u168 :: u169 :: u170 :: u171 :: u172 :: u173 :: u174 :: u175 :: u176 :: u177 :: u178 :: u179 :: u180 :: u181 :: u182 :: u183 :: u184 :: u185 :: u186 :: u187 :: u188 :: u189 :: u190 :: c191 :: c192 :: c193 :: c194 :: c195 :: c196 :: c197 :: c198 :: c199 :: c200 :: c201 :: c202 :: c203 :: c204 :: c205 :: c206 :: c207 :: c208 :: c209 :: c210 :: c211 :: c212 :: c213 :: c214 :: c215 :: c216 :: c217 :: c218 :: c219 :: c220 :: c221 :: []), []⟩ wx) :
    Code.wp Try.prog PC5_code Q ⟨List.toArray (c0 :: c1 :: .pointer (some ⟨b2, 0, none⟩) :: c3 :: c4 :: c5 :: c6 :: .pointer (some ⟨b7, 0, none⟩) :: c8 :: c9 :: c10 :: c11 :: c12 :: .slice (some ⟨bo, oo, none⟩) o.length capo :: .int .i64 j :: .bool false :: .int .i64 0 :: c17 :: c18 :: c19 :: c20 :: c21 :: c22 :: c23 :: c24 :: c25 :: c26 :: c27 :: c28 :: c29 :: c30 :: c31 :: c32 :: c33 :: c34 :: c35 :: c36 :: c37 :: c38 :: c39 :: c40 :: c41 :: c42 :: c43 :: c44 :: c45 :: c46 :: c47 :: c48 :: c49 :: c50 :: c51 :: c52 :: c53 :: c54 :: c55 :: c56 :: c57 :: c58 :: c59 :: c60 :: c61 :: c62 :: c63 :: c64 :: c65 :: c66 :: c67 :: c68 :: c69 :: c70 :: c71 :: c72 :: c73 :: c74 :: c75 :: c76 :: c77 :: c78 :: c79 :: c80 :: c81 :: c82 :: c83 :: c84 :: c85 :: c86 :: c87 :: c88 :: c89 :: c90 :: c91 :: c92 :: c93 :: c94 :: c95 :: c96 :: c97 :: c98 :: c99 :: c100 :: c101 :: c102 :: c103 :: c104 :: c105 :: c106 :: c107 :: c108 :: c109 :: c110 :: c111 :: c112 :: c113 :: c114 :: c115 :: c116 :: c117 :: c118 :: c119 :: c120 :: c121 :: c122 :: c123 :: c124 :: c125 :: c126 :: c127 :: c128 :: c129 :: c130 :: c131 :: c132 :: c133 :: c134 :: c135 :: c136 :: c137 :: c138 :: c139 :: c140 :: c141 :: c142 :: c143 :: c144 :: c145 :: c146 :: c147 :: c148 :: c149 :: c150 :: c151 :: c152 :: c153 :: c154 :: c155 :: c156 :: c157 :: c158 :: c159 :: c160 :: c161 :: c162 :: c163 :: c164 :: c165 :: c166 :: c167 :: c168 :: c169 :: c170 :: c171 :: c172 :: c173 :: c174 :: c175 :: c176 :: c177 :: c178 :: c179 :: c180 :: c181 :: c182 :: c183 :: c184 :: c185 :: c186 :: c187 :: c188 :: c189 :: c190 :: c191 :: c192 :: c193 :: c194 :: c195 :: c196 :: c197 :: c198 :: c199 :: c200 :: c201 :: c202 :: c203 :: c204 :: c205 :: c206 :: c207 :: c208 :: c209 :: c210 :: c211 :: c212 :: c213 :: c214 :: c215 :: c216 :: c217 :: c218 :: c219 :: c220 :: c221 :: []), []⟩ w0 := by
  have HQ := Lib.hid hQ
  have t3 : (j : Int) < (o.length : Int) := by omega
  have t4 : (0 : Int) ≤ (j : Int) := by omega
  clear hQ
  conv => arg 2; whnf
  go_wp2_with fail
  go_loopw [15, 16] (fun hv i wi => ∃ m : Nat, m ≤ S.fl.length ∧ i = .int .i64 m ∧ hv = .bool ((S.fl.take m).any (wasIt g q.rto x.now)) ∧ Below w0.heap.size w0 wi) (fun _ i _ => S.fl.length - (intOf i).toNat)
  case atStart => exact ⟨0, by omega, rfl, by simp, Below.refl _ _⟩
  case round =>
    obtain ⟨m, hm, rfl, rfl, hwb⟩ := hrel
    have HV := Lib.hid hwb
    clear hwb
    have A1v := Lib.hid (keepb A1.out HV.out)
    have A7v := Lib.hid (keepb A7.out HV.out)
    have FSv := fls_keep FS HV
    have FOv := fls_keep FO HV
    have c_A1v := cell_of_block A1v.out
    have f_A1v := frozen_of_block A1v.out
    have c_A7v := cell_of_block A7v.out
    have f_A7v := frozen_of_block A7v.out
    obtain ⟨g0, g1, g2, g3, g4, g5, g6⟩ := fls_row FOv (Below.refl _ _) j hjt g HG.out
    by_cases hmt : m < S.fl.length
    · obtain ⟨f, hf⟩ : ∃ f, f = S.fl[m] := ⟨_, rfl⟩
      have HFm := Lib.hid hf
      obtain ⟨f0, f1⟩ := HFl.out f (by rw [hf]; simp)
      obtain ⟨bs, os, hps, _⟩ := FSv.out.open (by omega)
      subst hps
      obtain ⟨c0, c1, c2, c3, c4, c5, c6⟩ := fls_row FSv (Below.refl _ _) m hmt f hf
      have t5 : (m : Int) < (S.fl.length : Int) := by omega
      have t6 : (0 : Int) ≤ (m : Int) := by omega
      clear hf
      obtain ⟨hv, hhv⟩ : ∃ hv, hv = (S.fl.take m).any (wasIt g q.rto x.now) := ⟨_, rfl⟩
      obtain ⟨hv', hhv'⟩ : ∃ hv', hv' = (S.fl.take (m + 1)).any (wasIt g q.rto x.now) := ⟨_, rfl⟩
      have HVs := Lib.hid (show hv' = (hv || wasIt g q.rto x.now f) by rw [hhv', hhv, any_step hmt, HFm.out])
      rw [← hhv]
      have HV' := Lib.hid hhv'
      clear hhv hhv'
      go_upto_region 32 with fail
      refine gen_wp (fun wf => Hid (Below wr.heap.size wr wf) ∧ Hid (wf.heap[wr.heap.size]? = some (.cells #[.int .i64 f.seq, .int .i64 f.note.user, .int .i64 f.note.ver, .int .i64 f.note.stat, .int .i64 f.note.cnt, .int .i64 f.at_, .int .i64 f.tries] 40)) ∧ True) ⟨Lib.hid (by (repeat (first | (with_reducible exact Below.refl _ _) | (with_reducible refine bel_set (by first | omega | (simp; done) | (simp; omega)) ?_) | (with_reducible refine bel_alloc (by first | omega | (simp; done) | (simp; omega)) ?_) | (with_reducible refine bel_drew ?_) | (with_reducible refine bel_drewN ?_ _))); first | done | fail "left"), Lib.hid (by first | (simp [World.setCell, Array.getElem?_modify, A1v.out, A7v.out]; done) | (simp [World.setCell, Array.getElem?_modify, A1v.out, A7v.out]; omega) | ((repeat (first | (with_reducible exact A1v.out) | (with_reducible exact A7v.out) | (with_reducible exact heap_new _ _ _ (by first | rfl | (simp; done))) | (with_reducible refine keepa ?_ _) | (simp [World.setCell, Array.getElem?_modify, A1v.out, A7v.out]; done))); done)), trivial⟩ ?_
      clear c_A1v f_A1v c_A7v f_A7v
      rintro wf ⟨N, AF, -⟩
      have c_AF := cell_of_block AF.out
      have f_AF := frozen_of_block AF.out
      clear c0 c1 c2 c3 c4 c5 c6 g0 g1 g2 g3 g4 g5 g6
      have HVf := Lib.hid (chain HV.out N.out)
      replace A1v := Lib.hid (keepb A1v.out N.out)
      replace c_A1v := cell_of_block A1v.out
      replace f_A1v := frozen_of_block A1v.out
      replace A7v := Lib.hid (keepb A7v.out N.out)
      replace c_A7v := cell_of_block A7v.out
      replace f_A7v := frozen_of_block A7v.out
      have FOf := fls_keep FOv N
      obtain ⟨g0, g1, g2, g3, g4, g5, g6⟩ := fls_row FOf (Below.refl _ _) j hjt g HG.out
      clear N
      cases hv with
      | true =>
        have HVt := Lib.hid (show true = hv' by rw [HVs.out]; rfl)
        go_quiet (fail)
        go_wp2_with fail
        go_roundw
        case rel => exact ⟨m + 1, by omega, by go_num, by rw [← HV'.out, ← HVt.out], bel_drewN HVf.out _⟩
        case measure => go_light; simp [intOf]; omega
      | false =>
        have HVw := Lib.hid (show wasIt g q.rto x.now f = hv' by rw [HVs.out]; rfl)
        by_cases hq1 : f.seq = g.seq
        · have u2 : (f.seq == g.seq) = true := by simpa using hq1
          by_cases hq2 : f.note = g.note
          · have hnt := fun w => eql_nt f.note g.note w
            simp only [decide_eq_true hq2] at hnt
            obtain ⟨bt, hbt⟩ : ∃ bt, bt = decide (f.at_ + q.rto ≤ x.now) := ⟨_, rfl⟩
            have HVt := Lib.hid (show bt = hv' by rw [← HVw.out, hbt]; unfold wasIt; simp [hq1, hq2])
            have HBt := Lib.hid hbt
            clear hq1 hq2 hbt
            go_quiet (fail)
            go_wp2_with fail
            go_roundw
            case rel => exact ⟨m + 1, by omega, by go_num, by rw [← HV'.out, ← HVt.out, HBt.out], bel_drewN HVf.out _⟩
            case measure => go_light; simp [intOf]; omega
          · have hnt := fun w => eql_nt f.note g.note w
            simp only [decide_eq_false hq2] at hnt
            have HVt := Lib.hid (show false = hv' by rw [← HVw.out]; unfold wasIt; simp [hq1, hq2])
            clear hq1 hq2
            go_quiet (fail)
            go_wp2_with fail
            go_roundw
            case rel => exact ⟨m + 1, by omega, by go_num, by rw [← HV'.out, ← HVt.out], bel_drewN HVf.out _⟩
            case measure => go_light; simp [intOf]; omega
        · have u2 : (f.seq == g.seq) = false := by simpa using hq1
          have HVt := Lib.hid (show false = hv' by rw [← HVw.out]; unfold wasIt; simp [hq1])
          clear hq1
          go_quiet (fail)
          go_wp2_with fail
          go_roundw
          case rel => exact ⟨m + 1, by omega, by go_num, by rw [← HV'.out, ← HVt.out], bel_drewN HVf.out _⟩
          case measure => go_light; simp [intOf]; omega
    · have hme : m = S.fl.length := by omega
      subst hme
      have t5 : decide ((S.fl.length : Int) < (S.fl.length : Int)) = false := by simp
      rw [HAll.out]
      go_wp2_with fail
      exact HQ.out _ HV.out _ _ _ _ _ _ _ _ _ _ _ _ _ _ _ _ _ _ _ _ _ _ _ _ _ _ _ _ _ _ _ _ _ _ _ _ _ _ _ _ _ _ _ _ _ _ _ _
noncomputable def PC3_code : Code := ((Try.f7.body.bind (findB 3)).getD .skip)

set_option maxRecDepth 100000 in
set_option maxHeartbeats 8000000 in
theorem cs_outer (x : Ac) (S : Sd) (q : Rt) (p : Option Addr) (cap b2 b7 : Nat) (o : List Fl) (bo oo capo : Nat) (w0 : World) (c0 c1 c3 c4 c5 c6 c8 c9 c10 c11 c12 c15 c16 c17 c18 c19 c20 c21 c22 c23 c24 c25 c26 c27 c28 c29 c30 c31 c32 c33 c34 c35 c36 c37 c38 c39 c40 c41 c42 c43 c44 c45 c46 c47 c48 c49 c50 c51 c52 c53 c54 c55 c56 c57 c58 c59 c60 c61 c62 c63 c64 c65 c66 c67 c68 c69 c70 c71 c72 c73 c74 c75 c76 c77 c78 c79 c80 c81 c82 c83 c84 c85 c86 c87 c88 c89 c90 c91 c92 c93 c94 c95 c96 c97 c98 c99 c100 c101 c102 c103 c104 c105 c106 c107 c108 c109 c110 c111 c112 c113 c114 c115 c116 c117 c118 c119 c120 c121 c122 c123 c124 c125 c126 c127 c128 c129 c130 c131 c132 c133 c134 c135 c136 c137 c138 c139 c140 c141 c142 c143 c144 c145 c146 c147 c148 c149 c150 c151 c152 c153 c154 c155 c156 c157 c158 c159 c160 c161 c162 c163 c164 c165 c166 c167 c168 c169 c170 c171 c172 c173 c174 c175 c176 c177 c178 c179 c180 c181 c182 c183 c184 c185 c186 c187 c188 c189 c190 c191 c192 c193 c194 c195 c196 c197 c198 c199 c200 c201 c202 c203 c204 c205 c206 c207 c208 c209 c210 c211 c212 c213 c214 c215 c216 c217 c218 c219 c220 c221 : Value) (Q : Exit → Act → World → Prop) (A1 : Hid (w0.heap[b2]? = some (.cells #[.int .i64 S.next, .slice p S.fl.length cap, .int .i64 S.cwnd, .int .i64 S.acc, .int .i64 q.s, .int .i64 q.v, .int .i64 q.rto, .int .i64 q.fails, .bool q.has] 28))) (A7 : Hid (w0.heap[b7]? = some (.cells #[.int .i64 x.do_, .int .i64 x.n, .int .i64 x.m, .int .i64 x.now, .int .i64 x.note.user, .int .i64 x.note.ver, .int .i64 x.note.stat, .int .i64 x.note.cnt] 47))) (FS : Hid (Fls w0 (.slice p S.fl.length cap) S.fl)) (FO : Hid (Fls w0 (.slice (some ⟨bo, oo, none⟩) o.length capo) o)) (hcaps : S.fl.length ≤ cap) (hcapo : o.length ≤ capo) (hol8 : o.length ≤ 8) (hsl8 : S.fl.length ≤ 8) (HFl : Hid (∀ f ∈ S.fl, 0 ≤ f.at_ ∧ f.at_ ≤ 1099511627776)) (r0 : 2 ≤ q.rto) (r1 : q.rto ≤ 64) (e1 : 0 ≤ x.now) (e2 : x.now ≤ 1099511627776) (HOs : Hid (∀ k (hk : k < o.length), o[k].at_ = x.now ∧ ∃ f ∈ S.fl, f.seq = o[k].seq ∧ f.note = o[k].note ∧ f.at_ + q.rto ≤ x.now))
    (hQ : ∀ wx : World, Below w0.heap.size w0 wx → ∀ (u4 u14 u15 u16 u17 u139 u140 u141 u142 u143 u144 u145 u146 u147 u148 u149 u150 u151 u152 u153 u154 u155 u156 u157 u158 u159 u160 u161 u162 u163 u164 u165 u166 u167 u168 u169 u170 u171 u172 u173 u174 u175 u176 u177 u178 u179 u180 u181 u182 u183 u184 u185 u186 u187 u188 u189 u190 u191 u192 u193 u194 u195 u196 u197 u198 u199 u200 u201 u202 : Value), Q .normal ⟨List.toArray (c0 :: c1 :: .pointer (some ⟨b2, 0, none⟩) :: c3 :: u4 :: c5 :: c6 :: .pointer (some ⟨b7, 0, none⟩) :: c8 :: c9 :: c10 :: c11 :: c12 :: .slice (some ⟨bo, oo, none⟩) o.length capo :: u14 :: u15 :: u16 :: u17 :: c18 :: c19 :: c20 :: c21 :: c22 :: c23 :: c24 :: c25 :: c26 :: c27 :: c28 :: c29 :: c30 :: c31 :: c32 :: c33 :: c34 :: c35 :: c36 :: c37 :: c38 :: c39 :: c40 :: c41 :: c42 :: c43 :: c44 :: c45 :: c46 :: c47 :: c48 :: c49 :: c50 :: c51 :: c52 :: c53 :: c54 :: c55 :: c56 :: c57 :: c58 :: c59 :: c60 :: c61 :: c62 :: c63 :: c64 :: c65 :: c66 :: c67 :: c68 :: c69 :: c70 :: c71 :: c72 :: c73 :: c74 :: c75 :: c76 :: c77 :: c78 :: c79 :: c80 :: c81 :: c82 :: c83 :: c84 :: c85 :: c86 :: c87 :: c88 :: c89 :: c90 :: c91 :: c92 :: c93 :: c94 :: c95 :: c96 :: c97 :: c98 :: c99 :: c100 :: c101 :: c102 :: c103 :: c104 :: c105 :: c106 :: c107 :: c108 :: c109 :: c110 :: c111 :: c112 :: c113 :: c114 :: c115 :: c116 :: c117 :: c118 :: c119 :: c120 :: c121 :: c122 :: c123 :: c124 :: c125 :: c126 :: c127 :: c128 :: c129 :: c130 :: c131 :: c132 :: c133 :: c134 :: c135 :: c136 :: c137 :: c138 :: u139 :: u140 :: u141 :: u142 :: u143 :: u144 :: u145 :: u146 :: u147 :: u148 :: u149 :: u150 :: u151 :: u152 :: u153 :: u154 :: u155 :: u156 :: u157 :: u158 :: u159 :: u160 :: u161 :: u162 :: u163 :: u164 :: u165 :: u166 :: u167 :: u168 :: u169 :: u170 :: u171 :: u172 :: u173 :: u174 :: u175 :: u176 :: u177 :: u178 :: u179 :: u180 :: u181 :: u182 :: u183 :: u184 :: u185 :: u186 :: u187 :: u188 :: u189 :: u190 :: u191 :: u192 :: u193 :: u194 :: u195 :: u196 :: u197 :: u198 :: u199 :: u200 :: u201 :: u202 :: c203 :: c204 :: c205 :: c206 :: c207 :: c208 :: c209 :: c210 :: c211 :: c212 :: c213 :: c214 :: c215 :: c216 :: c217 :: c218 :: c219 :: c220 :: c221 :: []), []⟩ wx) :
    Code.wp Try.prog PC3_code Q ⟨List.toArray (c0 :: c1 :: .pointer (some ⟨b2, 0, none⟩) :: c3 :: c4 :: c5 :: c6 :: .pointer (some ⟨b7, 0, none⟩) :: c8 :: c9 :: c10 :: c11 :: c12 :: .slice (some ⟨bo, oo, none⟩) o.length capo :: .int .i64 0 :: c15 :: c16 :: c17 :: c18 :: c19 :: c20 :: c21 :: c22 :: c23 :: c24 :: c25 :: c26 :: c27 :: c28 :: c29 :: c30 :: c31 :: c32 :: c33 :: c34 :: c35 :: c36 :: c37 :: c38 :: c39 :: c40 :: c41 :: c42 :: c43 :: c44 :: c45 :: c46 :: c47 :: c48 :: c49 :: c50 :: c51 :: c52 :: c53 :: c54 :: c55 :: c56 :: c57 :: c58 :: c59 :: c60 :: c61 :: c62 :: c63 :: c64 :: c65 :: c66 :: c67 :: c68 :: c69 :: c70 :: c71 :: c72 :: c73 :: c74 :: c75 :: c76 :: c77 :: c78 :: c79 :: c80 :: c81 :: c82 :: c83 :: c84 :: c85 :: c86 :: c87 :: c88 :: c89 :: c90 :: c91 :: c92 :: c93 :: c94 :: c95 :: c96 :: c97 :: c98 :: c99 :: c100 :: c101 :: c102 :: c103 :: c104 :: c105 :: c106 :: c107 :: c108 :: c109 :: c110 :: c111 :: c112 :: c113 :: c114 :: c115 :: c116 :: c117 :: c118 :: c119 :: c120 :: c121 :: c122 :: c123 :: c124 :: c125 :: c126 :: c127 :: c128 :: c129 :: c130 :: c131 :: c132 :: c133 :: c134 :: c135 :: c136 :: c137 :: c138 :: c139 :: c140 :: c141 :: c142 :: c143 :: c144 :: c145 :: c146 :: c147 :: c148 :: c149 :: c150 :: c151 :: c152 :: c153 :: c154 :: c155 :: c156 :: c157 :: c158 :: c159 :: c160 :: c161 :: c162 :: c163 :: c164 :: c165 :: c166 :: c167 :: c168 :: c169 :: c170 :: c171 :: c172 :: c173 :: c174 :: c175 :: c176 :: c177 :: c178 :: c179 :: c180 :: c181 :: c182 :: c183 :: c184 :: c185 :: c186 :: c187 :: c188 :: c189 :: c190 :: c191 :: c192 :: c193 :: c194 :: c195 :: c196 :: c197 :: c198 :: c199 :: c200 :: c201 :: c202 :: c203 :: c204 :: c205 :: c206 :: c207 :: c208 :: c209 :: c210 :: c211 :: c212 :: c213 :: c214 :: c215 :: c216 :: c217 :: c218 :: c219 :: c220 :: c221 :: []), []⟩ w0 := by
  have HQ := Lib.hid hQ
  clear hQ
  conv => arg 2; whnf
  go_wp2_with fail
  go_loopw [14] (fun i wi => ∃ j : Nat, j ≤ o.length ∧ i = .int .i64 j ∧ Below w0.heap.size w0 wi) (fun i _ => o.length - (intOf i).toNat)
  case atStart => exact ⟨0, by omega, rfl, Below.refl _ _⟩
  case round =>
    obtain ⟨j, hj, rfl, hwb⟩ := hrel
    have HW := Lib.hid hwb
    clear hwb
    by_cases hjt : j < o.length
    · obtain ⟨g, hg⟩ : ∃ g, g = o[j] := ⟨_, rfl⟩
      have HOj := Lib.hid (HOs.out j hjt)
      rw [← hg] at HOj
      have HG := Lib.hid hg
      have t3 : (j : Int) < (o.length : Int) := by omega
      have t4 : (0 : Int) ≤ (j : Int) := by omega
      have HAll := Lib.hid (show (S.fl.take S.fl.length).any (wasIt g q.rto x.now) = true by
        obtain ⟨-, f, hf, h1, h2, h3⟩ := HOj.out
        exact any_all hf (by unfold wasIt; simp [h1, h2, h3]))
      have u1 : (g.at_ != x.now) = false := by have := HOj.out.1; simpa using this
      clear hg
      obtain ⟨wk, hwk⟩ : ∃ wk : World, wk = wr := ⟨_, rfl⟩
      subst hwk
      go_upto_block 5 with fail
      refine cs_inner x S q p cap b2 b7 o bo oo capo j g wk _ _ _ _ _ _ _ _ _ _ _ _ _ _ _ _ _ _ _ _ _ _ _ _ _ _ _ _ _ _ _ _ _ _ _ _ _ _ _ _ _ _ _ _ _ _ _ _ _ _ _ _ _ _ _ _ _ _ _ _ _ _ _ _ _ _ _ _ _ _ _ _ _ _ _ _ _ _ _ _ _ _ _ _ _ _ _ _ _ _ _ _ _ _ _ _ _ _ _ _ _ _ _ _ _ _ _ _ _ _ _ _ _ _ _ _ _ _ _ _ _ _ _ _ _ _ _ _ _ _ _ _ _ _ _ _ _ _ _ _ _ _ _ _ _ _ _ _ _ _ _ _ _ _ _ _ _ _ _ _ _ _ _ _ _ _ _ _ _ _ _ _ _ _ _ _ _ _ _ _ _ _ _ _ _ _ _ _ _ _ _ _ _ _ _ _ _ _ _ _ _ _ _ _ _ _ _ _ _ _ _ _ _ _ _ _ _ (Lib.hid (keepb A1.out HW.out)) (Lib.hid (keepb A7.out HW.out)) (fls_keep FS HW) (fls_keep FO HW) hcaps hcapo hol8 hsl8 HFl r0 r1 e1 e2 hjt HG HAll ?_
      intro wz hb u16 u17 u145 u146 u147 u148 u149 u150 u151 u152 u153 u154 u155 u156 u157 u158 u159 u160 u161 u162 u163 u164 u165 u166 u167 u168 u169 u170 u171 u172 u173 u174 u175 u176 u177 u178 u179 u180 u181 u182 u183 u184 u185 u186 u187 u188 u189 u190
      have HZ := Lib.hid (HW.out.trans (hb.mono HW.out.size))
      have A7z := Lib.hid (keepb A7.out HZ.out)
      have FOz := fls_keep FO HZ
      have c_A7z := cell_of_block A7z.out
      have f_A7z := frozen_of_block A7z.out
      obtain ⟨g0, g1, g2, g3, g4, g5, g6⟩ := fls_row FOz (Below.refl _ _) j hjt g HG.out
      clear hb
      go_wp2_with fail
      go_quiet (fail)
      go_wp2_with fail
      go_roundw
      case rel => exact ⟨j + 1, by omega, by go_num, bel_drewN HZ.out _⟩
      case measure => go_light; simp [intOf]; omega
    · have hje : j = o.length := by omega
      subst hje
      have t3 : decide ((o.length : Int) < (o.length : Int)) = false := by simp
      go_wp2_with fail
      exact HQ.out _ HW.out _ _ _ _ _ _ _ _ _ _ _ _ _ _ _ _ _ _ _ _ _ _ _ _ _ _ _ _ _ _ _ _ _ _ _ _ _ _ _ _ _ _ _ _ _ _ _ _ _ _ _ _ _ _ _ _ _ _ _ _ _ _ _ _ _ _ _ _ _
end Go.Proofs.Yteilgibfmljoeaa.K
