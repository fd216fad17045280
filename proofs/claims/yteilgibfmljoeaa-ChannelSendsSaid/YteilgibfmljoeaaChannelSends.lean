/-
  THE STATEMENT 'Rows.ChannelSendsSaid': nightjarlaw12.ChannelSends returns true for every input, and its arguments read afterwards as they read before. No condition.
-/
import Derived.Test.YteilgibfmljoeaaChanSendQ
import Derived.Test.YteilgibfmljoeaaRows
import Derived.Deep.DeepCutAuto
import Derived.Deep.CutBlock
import Derived.Deep.Light
import Derived.ProofKit
import Derived.OpenShut
import Derived.ShutString
import Derived.ChangeOld
import Derived.Below
set_option linter.unusedVariables false
set_option linter.unusedSimpArgs false
namespace Go.Proofs.Yteilgibfmljoeaa.lawChannelSends
open Go Go.RowKit Nj K

set_option maxRecDepth 100000 in
set_option maxHeartbeats 8000000 in
theorem walk (n : Int) (v : Value) (c a : Int) (r : Rt) (l : List Fl) (va : Value) (la : List Ac) (w : World) (h : Fls w v l) (wn : (Lit.int .i64 n).wf = true) (ha : Acs w va la) (hwf : ∀ a ∈ la, (Lit.int .i64 a.n).wf = true) :
    Calls Try.prog 7 #[.agg #[.int .i64 n, v, .int .i64 c, .int .i64 a, .int .i64 r.s, .int .i64 r.v, .int .i64 r.rto, .int .i64 r.fails, .bool r.has], va] w fun e w' => e = .returned (.bool true) ∧ Below w.heap.size w w' := by
  have FS := Lib.hid h
  have HA := Lib.hid ha
  obtain ⟨hn0, hn1⟩ := wf_i64 wn
  obtain ⟨p, cap, rfl, hcap⟩ := fls_shape h
  obtain ⟨pa, capa, rfl, hcapa⟩ := acs_shape ha
  have hm : la.length ≤ 9223372036854775807 := ha.1
  have HWf := Lib.hid hwf
  clear h wn ha hwf
  by_cases hlong : 200 < la.length
  · have d1 := dec_t (show (200 : Int) < (la.length : Int) by omega)
    go_enter Try.func7, Try.ntmps7
    go_upto_region 1 with fail
    refine gen_wp (fun w1 => Hid (w1.heap[w.heap.size]? = some (.cells #[.int .i64 n, .slice p l.length cap, .int .i64 c, .int .i64 a, .int .i64 r.s, .int .i64 r.v, .int .i64 r.rto, .int .i64 r.fails, .bool r.has] 28)) ∧ Hid (Below w.heap.size w w1) ∧ True) ⟨Lib.hid (by first | (simp [World.setCell, Array.getElem?_modify]; done) | (simp [World.setCell, Array.getElem?_modify]; omega) | ((repeat (first | (with_reducible exact heap_new _ _ _ (by first | rfl | (simp; done))) | (with_reducible refine keepa ?_ _) | (simp [World.setCell, Array.getElem?_modify]; done))); done)), Lib.hid (by (repeat (first | (with_reducible exact Below.refl _ _) | (with_reducible refine bel_set (by first | omega | (simp; done) | (simp; omega)) ?_) | (with_reducible refine bel_alloc (by first | omega | (simp; done) | (simp; omega)) ?_) | (with_reducible refine bel_drew ?_) | (with_reducible refine bel_drewN ?_ _))); first | done | fail "left"), trivial⟩ ?_
    rintro w1 ⟨A1, BA, -⟩
    have c_A1 := cell_of_block A1.out
    have f_A1 := frozen_of_block A1.out
    replace FS := fls_keep FS BA
    go_wp2_with fail
    refine (small12_any _).mono ?_; rintro e w2 ⟨rfl, B2⟩
    replace A1 := Lib.hid (keepb A1.out B2.out)
    replace c_A1 := cell_of_block A1.out
    replace f_A1 := frozen_of_block A1.out
    replace FS := fls_keep FS B2
    replace BA := Lib.hid (chain BA.out B2.out)
    go_wp2_with fail
    go_ret
    exact ⟨rfl, BA.out⟩
  have d1 := dec_f (show ¬ (200 : Int) < (la.length : Int) by omega)
  cases hr : chRight ⟨⟨n, l, c, a⟩, r⟩ with
  | false =>
    have HR := Lib.hid hr
    clear hr
    go_enter Try.func7, Try.ntmps7
    go_upto_region 1 with fail
    refine gen_wp (fun w1 => Hid (w1.heap[w.heap.size]? = some (.cells #[.int .i64 n, .slice p l.length cap, .int .i64 c, .int .i64 a, .int .i64 r.s, .int .i64 r.v, .int .i64 r.rto, .int .i64 r.fails, .bool r.has] 28)) ∧ Hid (Below w.heap.size w w1) ∧ True) ⟨Lib.hid (by first | (simp [World.setCell, Array.getElem?_modify]; done) | (simp [World.setCell, Array.getElem?_modify]; omega) | ((repeat (first | (with_reducible exact heap_new _ _ _ (by first | rfl | (simp; done))) | (with_reducible refine keepa ?_ _) | (simp [World.setCell, Array.getElem?_modify]; done))); done)), Lib.hid (by (repeat (first | (with_reducible exact Below.refl _ _) | (with_reducible refine bel_set (by first | omega | (simp; done) | (simp; omega)) ?_) | (with_reducible refine bel_alloc (by first | omega | (simp; done) | (simp; omega)) ?_) | (with_reducible refine bel_drew ?_) | (with_reducible refine bel_drewN ?_ _))); first | done | fail "left"), trivial⟩ ?_
    rintro w1 ⟨A1, BA, -⟩
    have c_A1 := cell_of_block A1.out
    have f_A1 := frozen_of_block A1.out
    replace FS := fls_keep FS BA
    go_wp2_with fail
    refine (small12_any _).mono ?_; rintro e w2 ⟨rfl, B2⟩
    replace A1 := Lib.hid (keepb A1.out B2.out)
    replace c_A1 := cell_of_block A1.out
    replace f_A1 := frozen_of_block A1.out
    replace FS := fls_keep FS B2
    replace BA := Lib.hid (chain BA.out B2.out)
    go_wp2_with fail
    refine (cright_at n _ c a r l _ _ FS.out hn1 HR.out).mono ?_; rintro e w3 ⟨rfl, B3⟩
    replace A1 := Lib.hid (keepb A1.out B3.out)
    replace c_A1 := cell_of_block A1.out
    replace f_A1 := frozen_of_block A1.out
    replace FS := fls_keep FS B3
    replace BA := Lib.hid (chain BA.out B3.out)
    clear B2 B3
    go_wp2_with fail
    go_ret
    exact ⟨rfl, BA.out⟩
  | true =>
    have HR := Lib.hid hr
    clear hr
    go_enter Try.func7, Try.ntmps7
    go_upto_region 1 with fail
    refine gen_wp (fun w1 => Hid (w1.heap[w.heap.size]? = some (.cells #[.int .i64 n, .slice p l.length cap, .int .i64 c, .int .i64 a, .int .i64 r.s, .int .i64 r.v, .int .i64 r.rto, .int .i64 r.fails, .bool r.has] 28)) ∧ Hid (Below w.heap.size w w1) ∧ True) ⟨Lib.hid (by first | (simp [World.setCell, Array.getElem?_modify]; done) | (simp [World.setCell, Array.getElem?_modify]; omega) | ((repeat (first | (with_reducible exact heap_new _ _ _ (by first | rfl | (simp; done))) | (with_reducible refine keepa ?_ _) | (simp [World.setCell, Array.getElem?_modify]; done))); done)), Lib.hid (by (repeat (first | (with_reducible exact Below.refl _ _) | (with_reducible refine bel_set (by first | omega | (simp; done) | (simp; omega)) ?_) | (with_reducible refine bel_alloc (by first | omega | (simp; done) | (simp; omega)) ?_) | (with_reducible refine bel_drew ?_) | (with_reducible refine bel_drewN ?_ _))); first | done | fail "left"), trivial⟩ ?_
    rintro w1 ⟨A1, BA, -⟩
    have c_A1 := cell_of_block A1.out
    have f_A1 := frozen_of_block A1.out
    replace FS := fls_keep FS BA
    go_wp2_with fail
    refine (small12_any _).mono ?_; rintro e w2 ⟨rfl, B2⟩
    replace A1 := Lib.hid (keepb A1.out B2.out)
    replace c_A1 := cell_of_block A1.out
    replace f_A1 := frozen_of_block A1.out
    replace FS := fls_keep FS B2
    replace BA := Lib.hid (chain BA.out B2.out)
    go_wp2_with fail
    refine (cright_at n _ c a r l _ _ FS.out hn1 HR.out).mono ?_; rintro e w3 ⟨rfl, B3⟩
    replace A1 := Lib.hid (keepb A1.out B3.out)
    replace c_A1 := cell_of_block A1.out
    replace f_A1 := frozen_of_block A1.out
    replace FS := fls_keep FS B3
    replace BA := Lib.hid (chain BA.out B3.out)
    clear B2 B3
    go_wp2_with fail
    go_loopw [6] (fun i wr => ∃ (k : Nat) (S : Sd) (q : Rt) (p : Option Addr) (cap : Nat), k ≤ la.length ∧ i = .int .i64 k ∧ wr.heap[w.heap.size]? = some (.cells #[.int .i64 S.next, .slice p S.fl.length cap, .int .i64 S.cwnd, .int .i64 S.acc, .int .i64 q.s, .int .i64 q.v, .int .i64 q.rto, .int .i64 q.fails, .bool q.has] 28) ∧ Fls wr (.slice p S.fl.length cap) S.fl ∧ chRight ⟨S, q⟩ = true ∧ Below w.heap.size w wr) (fun i _ => la.length - (intOf i).toNat)
    case atStart => exact ⟨0, ⟨n, l, c, a⟩, r, p, cap, by omega, rfl, A1.out, FS.out, HR.out, BA.out⟩
    case round =>
      obtain ⟨k, S, q, p, cap, hk, rfl, h1, hf, hS, hwb⟩ := hrel
      clear c_A1 f_A1 A1 FS BA HR
      have A1 := Lib.hid h1
      have FS := Lib.hid hf
      have HR := Lib.hid hS
      have HRS := Lib.hid (chan_right hS)
      have HP := Lib.hid (rightSd (chan_right hS).1)
      have BA := Lib.hid hwb
      clear h1 hf hS hwb
      have c_A1 := cell_of_block A1.out
      have f_A1 := frozen_of_block A1.out
      by_cases hlt : k < la.length
      · obtain ⟨ab, ao, rfl, _⟩ := HA.out.open (by omega)
        obtain ⟨x, hx⟩ : ∃ x, x = la[k] := ⟨_, rfl⟩
        obtain ⟨x0, x1, x2, x3, x4, x5, x6, x7⟩ := acs_row HA BA.out k hlt x hx
        have t1 : (k : Int) < (la.length : Int) := by omega
        have t2 : (0 : Int) ≤ (k : Int) := by omega
        have HSZ := Lib.hid (block_lt A1.out)
        have HXn := Lib.hid (wf_i64 (HWf.out x (by rw [hx]; simp)))
        clear hx
        go_upto_region 8 with fail
        refine gen_wp (fun w4 => Hid (Below wr.heap.size wr w4) ∧ Hid (w4.heap[wr.heap.size]? = some (.cells #[.int .i64 x.do_, .int .i64 x.n, .int .i64 x.m, .int .i64 x.now, .int .i64 x.note.user, .int .i64 x.note.ver, .int .i64 x.note.stat, .int .i64 x.note.cnt] 47)) ∧ Hid (w4.heap.size = wr.heap.size + 1) ∧ True) ⟨Lib.hid (by (repeat (first | (with_reducible exact Below.refl _ _) | (with_reducible refine bel_set (by first | omega | (simp; done) | (simp; omega)) ?_) | (with_reducible refine bel_alloc (by first | omega | (simp; done) | (simp; omega)) ?_) | (with_reducible refine bel_drew ?_) | (with_reducible refine bel_drewN ?_ _))); first | done | fail "left"), Lib.hid (by first | (simp [World.setCell, Array.getElem?_modify, A1.out]; done) | (simp [World.setCell, Array.getElem?_modify, A1.out]; omega) | ((repeat (first | (with_reducible exact A1.out) | (with_reducible exact heap_new _ _ _ (by first | rfl | (simp; done))) | (with_reducible refine keepa ?_ _) | (simp [World.setCell, Array.getElem?_modify, A1.out]; done))); done)), Lib.hid (by simp), trivial⟩ ?_
        clear c_A1 f_A1
        rintro w4 ⟨N, A7, SZ4, -⟩
        have c_A7 := cell_of_block A7.out
        have f_A7 := frozen_of_block A7.out
        clear x0 x1 x2 x3 x4 x5 x6 x7
        replace A1 := Lib.hid (keepb A1.out N.out)
        replace c_A1 := cell_of_block A1.out
        replace f_A1 := frozen_of_block A1.out
        replace FS := fls_keep FS N
        replace BA := Lib.hid (chain BA.out N.out)
        clear N
        by_cases hbad : x.now < 0 ∨ 1099511627776 < x.now
        · have HBad := Lib.hid hbad
          clear hbad
          go_wp2_with fail
          all_goals first
            | (go_ret; exact ⟨rfl, BA.out⟩)
            | (exfalso; have := HBad.out; omega)
        obtain ⟨e1, e2⟩ : 0 ≤ x.now ∧ x.now ≤ 1099511627776 := by omega
        clear hbad
        go_upto_region 11 with fail
        refine gen_wp (fun w5 => Hid (Below w4.heap.size w4 w5) ∧ Hid (w5.heap[w4.heap.size]? = some (.cells #[.int .i64 S.next, .slice p S.fl.length cap, .int .i64 S.cwnd, .int .i64 S.acc, .int .i64 q.s, .int .i64 q.v, .int .i64 q.rto, .int .i64 q.fails, .bool q.has] 28)) ∧ Hid (w5.heap.size = w4.heap.size + 1) ∧ True) ⟨Lib.hid (by (repeat (first | (with_reducible exact Below.refl _ _) | (with_reducible refine bel_set (by first | omega | (simp; done) | (simp; omega)) ?_) | (with_reducible refine bel_alloc (by first | omega | (simp; done) | (simp; omega)) ?_) | (with_reducible refine bel_drew ?_) | (with_reducible refine bel_drewN ?_ _))); first | done | fail "left"), Lib.hid (by first | (simp [World.setCell, Array.getElem?_modify, A1.out, A7.out]; done) | (simp [World.setCell, Array.getElem?_modify, A1.out, A7.out]; omega) | ((repeat (first | (with_reducible exact A1.out) | (with_reducible exact A7.out) | (with_reducible exact heap_new _ _ _ (by first | rfl | (simp; done))) | (with_reducible refine keepa ?_ _) | (simp [World.setCell, Array.getElem?_modify, A1.out, A7.out]; done))); done)), Lib.hid (by simp), trivial⟩ ?_
        clear c_A1 f_A1 c_A7 f_A7
        rintro w5 ⟨N, A8, SZ5, -⟩
        have c_A8 := cell_of_block A8.out
        have f_A8 := frozen_of_block A8.out
        replace A1 := Lib.hid (keepb A1.out N.out)
        replace c_A1 := cell_of_block A1.out
        replace f_A1 := frozen_of_block A1.out
        replace A7 := Lib.hid (keepb A7.out N.out)
        replace c_A7 := cell_of_block A7.out
        replace f_A7 := frozen_of_block A7.out
        replace FS := fls_keep FS N
        replace BA := Lib.hid (chain BA.out N.out)
        clear N
        have hs1 := HSZ.out
        have hs2 := SZ4.out
        have hs3 := SZ5.out
        obtain ⟨m1, m2⟩ : w.heap.size ≠ wr.heap.size ∧ w.heap.size ≠ w4.heap.size := by omega
        have hs4 : w.heap.size < w5.heap.size := by omega
        clear hs2 hs3
        have hnn : 1 ≤ S.next := HP.out.n0
        have hnm : S.next ≤ 1073741824 := HP.out.n1
        go_upto_block 2 with fail
        go_cut [] (fun wx => ∃ (S' : Sd) (q' : Rt) (p' : Option Addr) (cap' : Nat), (x.do_ = 0 ∨ S'.next = S.next) ∧ chRight ⟨S', q'⟩ = true ∧ wx.heap[w.heap.size]? = some (.cells #[.int .i64 S'.next, .slice p' S'.fl.length cap', .int .i64 S'.cwnd, .int .i64 S'.acc, .int .i64 q'.s, .int .i64 q'.v, .int .i64 q'.rto, .int .i64 q'.fails, .bool q'.has] 28) ∧
          wx.heap[wr.heap.size]? = some (.cells #[.int .i64 x.do_, .int .i64 x.n, .int .i64 x.m, .int .i64 x.now, .int .i64 x.note.user, .int .i64 x.note.ver, .int .i64 x.note.stat, .int .i64 x.note.cnt] 47) ∧
          wx.heap[w4.heap.size]? = some (.cells #[.int .i64 S.next, .slice p S.fl.length cap, .int .i64 S.cwnd, .int .i64 S.acc, .int .i64 q.s, .int .i64 q.v, .int .i64 q.rto, .int .i64 q.fails, .bool q.has] 28) ∧ Fls wx (.slice p' S'.fl.length cap') S'.fl ∧ Below w.heap.size w wx)
        case first =>
          refine cs_all x S q p cap wr.heap.size w4.heap.size w w5 _ _ _ _ _ _ _ _ _ _ _ _ _ _ _ _ _ _ _ _ _ _ _ _ _ _ _ _ _ _ _ _ _ _ _ _ _ _ _ _ _ _ _ _ _ _ _ _ _ _ _ _ _ _ _ _ _ _ _ _ _ _ _ _ _ _ _ _ _ _ _ _ _ _ _ _ _ _ _ _ _ _ _ _ _ _ _ _ _ _ _ _ _ _ _ _ _ _ _ _ _ _ _ _ _ _ _ _ _ _ _ _ _ _ _ _ _ _ _ _ _ _ _ _ _ _ _ _ _ _ _ _ _ _ _ _ _ _ _ _ _ _ _ _ _ _ _ _ _ _ _ _ _ _ _ _ _ _ _ _ _ _ _ _ _ _ _ _ _ _ _ _ _ _ _ _ _ _ _ _ _ _ _ _ _ _ _ _ _ _ _ _ _ _ _ _ _ _ _ _ _ _ _ _ _ _ _ _ _ _ _ _ _ _ _ _ _ _ _ A1 A7 A8 FS HR BA m1 m2 hs4 e1 e2 HXn (Lib.hid ?_)
          intro S' q' p' cap' wx h1 h2 h3 h4 h5 h6 h7 u4 u9 u10 u11 u12 u13 u14 u15 u16 u17 u50 u51 u52 u53 u54 u55 u56 u57 u58 u59 u60 u61 u62 u63 u64 u65 u66 u67 u68 u69 u70 u71 u72 u73 u74 u75 u76 u77 u78 u79 u80 u81 u82 u83 u84 u85 u86 u87 u88 u89 u90 u91 u92 u93 u94 u95 u96 u97 u98 u99 u100 u101 u102 u103 u104 u105 u106 u107 u108 u109 u110 u111 u112 u113 u114 u115 u116 u117 u118 u119 u120 u121 u122 u123 u124 u125 u126 u127 u128 u129 u130 u131 u132 u133 u134 u135 u136 u137 u138 u139 u140 u141 u142 u143 u144 u145 u146 u147 u148 u149 u150 u151 u152 u153 u154 u155 u156 u157 u158 u159 u160 u161 u162 u163 u164 u165 u166 u167 u168 u169 u170 u171 u172 u173 u174 u175 u176 u177 u178 u179 u180 u181 u182 u183 u184 u185 u186 u187 u188 u189 u190 u191 u192 u193 u194 u195 u196 u197 u198 u199 u200 u201 u202 u203
          have H1 := Lib.hid h1
          have H2 := Lib.hid h2
          have H3 := Lib.hid h3
          have H4 := Lib.hid h4
          have H5 := Lib.hid h5
          have H6 := Lib.hid h6
          have H7 := Lib.hid h7
          clear h1 h2 h3 h4 h5 h6 h7
          go_wp2_with fail
          go_meet
          case rel => exact ⟨S', q', p', cap', H1.out, H2.out, H3.out, H4.out, H5.out, H6.out, H7.out⟩
        case rest =>
          obtain ⟨S', q', p', cap', hsn, hsr, h1, h7, h8, hf, hwb⟩ := hcut
          clear c_A1 f_A1 c_A7 f_A7 c_A8 f_A8 A1 A7 A8 FS BA
          have A1 := Lib.hid h1
          have A7 := Lib.hid h7
          have A8 := Lib.hid h8
          have FS := Lib.hid hf
          have BA := Lib.hid hwb
          have HR' := Lib.hid hsr
          have HN' := Lib.hid (show S'.next ≤ 1073741824 from (rightSd (chan_right hsr).1).n1)
          have HSn := Lib.hid hsn
          clear h1 h7 h8 hf hwb hsr hsn
          have c_A1 := cell_of_block A1.out
          have f_A1 := frozen_of_block A1.out
          have c_A7 := cell_of_block A7.out
          have f_A7 := frozen_of_block A7.out
          have c_A8 := cell_of_block A8.out
          have f_A8 := frozen_of_block A8.out
          go_wp2_with fail
          refine (cright_at S'.next _ S'.cwnd S'.acc q' S'.fl true _ FS.out (by have := HN'.out; omega) HR'.out).mono ?_; rintro e wp ⟨rfl, BP⟩
          replace A1 := Lib.hid (keepb A1.out BP.out)
          replace c_A1 := cell_of_block A1.out
          replace f_A1 := frozen_of_block A1.out
          replace A7 := Lib.hid (keepb A7.out BP.out)
          replace c_A7 := cell_of_block A7.out
          replace f_A7 := frozen_of_block A7.out
          replace A8 := Lib.hid (keepb A8.out BP.out)
          replace c_A8 := cell_of_block A8.out
          replace f_A8 := frozen_of_block A8.out
          replace BA := Lib.hid (chain BA.out BP.out)
          replace FS := fls_keep FS BP
          rcases (show (x.do_ != 0) = false ∨ ((x.do_ != 0) = true ∧ (S'.next != S.next) = false) by
            by_cases h0 : x.do_ = 0
            · left; simpa using h0
            · right; exact ⟨by simpa using h0, by simpa using HSn.out.resolve_left h0⟩) with y1 | ⟨y1, y2⟩
          all_goals
            go_wp2_with fail
            go_roundw
            case rel => exact ⟨k + 1, S', q', _, _, by omega, by go_num, A1.out, FS.out, HR'.out, BA.out⟩
            case measure => go_light; simp [intOf]; omega
      · have hke : k = la.length := by omega
        subst hke
        have t1 : decide ((la.length : Int) < (la.length : Int)) = false := by simp
        go_wp2_with fail
        go_ret
        exact ⟨rfl, BA.out⟩

end Go.Proofs.Yteilgibfmljoeaa.lawChannelSends
namespace Go.Proofs.Yteilgibfmljoeaa.lawChannelSends
open Go.ChangeShapes Go.WideShapes Go.RowKit
set_option linter.unusedVariables false
theorem own : ownKnob Try.prog.godebug = none := by kernel_rfl
theorem laidOut : laidOutB Try.prog = true := by kernel_rfl
set_option maxRecDepth 100000 in
theorem lifted (os : Os) (started : os.Started) (H : Type) (enc : TypeId × Value → H) :
    ReturnsInHanded {} Try.checked os 7 .any (Rows.channelSendsSpec.pre6 enc Try.prog Try.f7 Rows.channelSendsRow.domain false) (Rows.channelSendsSpec.post enc Try.prog Try.f7 false true false false) := by
  refine returnsInHanded_of_change (C := Try.checked) own started (by kernel_rfl) Try.func7
    (ChangeSpec.witness6 (enc := enc) (C := Try.checked) false ⟨#[], #[.agg #[.int .i64 0, .slice none 0 0, .int .i64 0, .int .i64 0, .int .i64 0, .int .i64 0, .int .i64 0, .int .i64 0, .bool false], .slice none 0 0], []⟩ 8 (by kernel_rfl) (by kernel_rfl) (by kernel_rfl) (by kernel_rfl)) ?_
  intro W base args ds gs before hval0 hW hcnd _
  have hval : ∀ (j : Nat) t v, Try.f7.params[j]? = some t → args[j]? = some v → Value.okWide Try.prog W .any base t v := hval0
  have hW' := hW
  obtain ⟨p, q, hA0, hV, rfl, hfz, hnd⟩ := hW
  have hA : DataW.TrodAll enc Try.prog W 0 (fun _ => true) true Try.f7.params.toList args.toList ds p := hA0
  rw [Try.params7] at hA hval
  obtain ⟨v0, vs0, d0, ds0, p0, q0, hargs, rfl, rfl, h0, r0⟩ := trodAll_cons hA
  obtain ⟨v1, vs1, d1, ds1, p1, q1, rfl, rfl, rfl, h1, r1⟩ := trodAll_cons r0
  obtain ⟨rfl, rfl, rfl⟩ := trodAll_nil r1
  obtain rfl : args = #[v0, v1] := by cases args; simp_all
  obtain ⟨rfl, rfl⟩ := trodVars_none hV
  obtain ⟨n0, u0, c0, b0, q0', z0, rfl, f0, w0⟩ := K.open_ch_arg (hval 0 28 v0 rfl rfl) h0
  have k0 := h0
  have lt0 : ∀ x ∈ p0, x.block < W.heap.size := by obtain ⟨m, hm⟩ := k0; exact DataW.trod_lt m _ _ _ hm
  obtain ⟨a1, len1, cap1, rfl⟩ := okWide_slice Try.underlying45 (hval 1 45 v1 rfl rfl)
  have k1 := h1
  have lt1 : ∀ x ∈ p1, x.block < W.heap.size := by obtain ⟨m, hm⟩ := k1; exact DataW.trod_lt m _ _ _ hm
  obtain ⟨z1, _, w1, y1⟩ : ∃ l : List Nj.Ac, l.length = len1 ∧ Nj.Acs W (.slice a1 len1 cap1) l ∧ ∀ a ∈ l, (Lit.int .i64 a.n).wf = true := by
    obtain ⟨fuel, hf⟩ := h1
    exact K.open_acws hf
  clear hA0 hval0
  refine (walk n0 u0 c0 b0 q0' z0 _ z1 W f0 w0 w1 y1).mono fun e W' ⟨he, bel⟩ => ?_
  subst he
  exact ⟨_, rfl, _, _, _, [], _, [], hW', trodAll_mk1 (shut_bool Try.underlying4 _), (trodAll_cons_mk (Below.trod laidOut (by kernel_rfl) (of_decide_eq_true (by kernel_rfl)) k0 bel lt0) (trodAll_cons_mk (Below.trod laidOut (by kernel_rfl) (of_decide_eq_true (by kernel_rfl)) k1 bel lt1) trodAll_mk0)), rfl, bel.frame _, fun h => by cases h⟩
theorem over : Rows.channelSendsRow.holds Try.pinned (OpenSpec.ofChange Rows.channelSendsSpec) :=
  OpenClaim.holds_of_wide 7 Try.f7 rfl rfl rfl rfl rfl rfl rfl ⟨rfl, rfl, rfl, rfl, rfl⟩ rfl rfl rfl rfl rfl (by kernel_rfl) Try.func7 (by kernel_rfl)
    (of_decide_eq_true (by kernel_rfl)) (by unfold Func.isWrapper; first | (rw [if_pos (by decide +kernel)]; kernel_rfl) | (rw [if_neg (by decide +kernel)]; exact ⟨rfl, rfl⟩))
    (fun os started H enc _ => lifted os started H enc)
/-- THE STATEMENT -/
theorem proved : Rows.ChannelSendsSaid := over
end Go.Proofs.Yteilgibfmljoeaa.lawChannelSends
#print axioms Go.Proofs.Yteilgibfmljoeaa.lawChannelSends.proved
