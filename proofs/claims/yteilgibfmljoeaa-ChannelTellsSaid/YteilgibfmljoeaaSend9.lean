/-
  CONTRACT of slices.DeleteFunc over send.Acked's closure.
-/
import Derived.Test.YteilgibfmljoeaaSend8
set_option linter.unusedVariables false
set_option linter.unusedSimpArgs false
namespace Nj
open Go
theorem keep_first {l : List Fl} {q : Fl → Bool} {k : Nat} (hk : k < l.length) (hp : q l[k] = false) (hb : ∀ j (hj : j < l.length), j < k → q l[j] = true) : (l.take (k + 1)).filter q = l.take k := by
  rw [List.take_add_one, List.getElem?_eq_getElem hk, List.filter_append]
  have h1 : (l.take k).filter q = l.take k := by
    rw [List.filter_eq_self]
    intro x hx
    obtain ⟨i, hi, rfl⟩ := List.getElem_of_mem hx
    rw [List.getElem_take]
    exact hb i (by simp at hi; omega) (by simp at hi; omega)
  simp [h1, hp]
theorem keep_all {l : List Fl} {q : Fl → Bool} (hb : ∀ j (hj : j < l.length), q l[j] = true) : l.filter q = l := by
  rw [List.filter_eq_self]
  intro x hx
  obtain ⟨i, hi, rfl⟩ := List.getElem_of_mem hx
  exact hb i hi
theorem keep_step {l : List Fl} {q : Fl → Bool} {j : Nat} (hj : j < l.length) : (l.take (j + 1)).filter q = (l.take j).filter q ++ (if q l[j] = true then [l[j]] else []) := by
  rw [List.take_add_one, List.getElem?_eq_getElem hj, List.filter_append]
  by_cases h : q l[j] = true <;> simp [h]
theorem fold_step {l : List Fl} {f : Int → Fl → Int} {s : Int} {j : Nat} (hj : j < l.length) : (l.take (j + 1)).foldl f s = f ((l.take j).foldl f s) l[j] := by
  rw [List.take_add_one, List.getElem?_eq_getElem hj, List.foldl_append]; rfl
theorem set_take {R : List Fl} {i : Nat} (hi : i < R.length) (x : Fl) : (R.set i x).take (i + 1) = R.take i ++ [x] := by
  rw [List.take_add_one, List.getElem?_eq_getElem (by simpa using hi), List.take_set_of_le (by omega)]
  simp
theorem flat_take {α : Type} {enc : α → List Value} {sz : Nat} (he : ∀ x, (enc x).length = sz) : ∀ (k : Nat) (L : List α), (flat enc L).take (k * sz) = flat enc (L.take k)
  | 0, L => by simp [flat]
  | k + 1, [] => by simp [flat]
  | k + 1, x :: L => by
    have e1 : flat enc (x :: L) = enc x ++ flat enc L := by simp [flat]
    have e2 : flat enc ((x :: L).take (k + 1)) = enc x ++ flat enc (L.take k) := by simp [flat]
    rw [e1, e2, List.take_append, he, List.take_of_length_le (by rw [he, Nat.succ_mul]; omega), ← flat_take he k L]
    congr 2
    rw [Nat.succ_mul]; omega
theorem zero_cells7 (n : Nat) : ((Builtin.zeroCells (Value.agg #[.int .i64 0, .int .i64 0, .int .i64 0, .int .i64 0, .int .i64 0, .int .i64 0, .int .i64 0]).cells n).toList).length = n * 7 ∧ ∀ v ∈ (Builtin.zeroCells (Value.agg #[.int .i64 0, .int .i64 0, .int .i64 0, .int .i64 0, .int .i64 0, .int .i64 0, .int .i64 0]).cells n).toList, v.oneCell' = true := by
  refine ⟨by simp [Builtin.zeroCells, Value.cells], fun v hv => ?_⟩
  simp only [Builtin.zeroCells, Array.toList_map, List.mem_map] at hv
  obtain ⟨i, _, rfl⟩ := hv
  have h7 : i % 7 < 7 := Nat.mod_lt _ (by decide)
  simp only [Value.cells]
  show (#[Value.int .i64 0, .int .i64 0, .int .i64 0, .int .i64 0, .int .i64 0, .int .i64 0, .int .i64 0][i % 7]!).oneCell' = true
  generalize i % 7 = k at *
  match k, h7 with
  | 0, _ | 1, _ | 2, _ | 3, _ | 4, _ | 5, _ | 6, _ => rfl
end Nj
namespace Go.Proofs.Yteilgibfmljoeaa.K
open Go Go.RowKit Nj

theorem zero_fl (w : World) : (zeroValue 40).run Try.prog w = .ok (.agg #[.int .i64 0, .int .i64 0, .int .i64 0, .int .i64 0, .int .i64 0, .int .i64 0, .int .i64 0]) w := by
  go_simp
theorem clear_fl {B : Nat} {w : World} {g n cap : Nat} {R : List Fl} (h : Own 40 7 B w (.slice (some ⟨g, 0, none⟩) n cap) n (flat Fl.cells R)) (hR : R.length = n) (i : Nat) (hi : i < n) :
    ∃ zs, ∀ ty, (Builtin.clear_ #[22] ty #[.slice (some ⟨g, i * 7, none⟩) (n - i) (cap - i)]).run Try.prog w = .ok (.tuple #[]) (w.setCells g (i * 7) zs) := by
  have hz7 := zero_cells7 (n - i)
  refine ⟨_, fun ty => run_clear_any (P := Try.prog) w 22 40 ty _ _ Try.underlying22 zero_fl g (i * 7) (n - i) (cap - i) (by omega) rfl hz7.2 (fun t ht => ?_) (fun t ht => (h.frozen _).2.2)⟩
  rw [hz7.1] at ht
  obtain ⟨b', o', e, hd⟩ := h.sl.open (by omega)
  cases e
  have := hd (i * 7 + t) (by rw [flat_length fl_seven, hR]; omega)
  rw [Nat.zero_add] at this
  rw [this]; rfl

set_option maxHeartbeats 2000000 in
theorem delf_any (B : Nat) (p : Option Addr) (cap : Nat) (l : List Fl) (ab kb sb nb : Nat) (ack sack sm now : Int) (w : World) (h : Own 40 7 B w (.slice p l.length cap) l.length (flat Fl.cells l)) (hl : l.length ≤ 1000)
    (ha : w.heap[ab]? = some (.cells #[.int .i64 ack] 3)) (hk : w.heap[kb]? = some (.cells #[.int .i64 sack] 3)) (hs : w.heap[sb]? = some (.cells #[.int .i64 sm] 3)) (hn : w.heap[nb]? = some (.cells #[.int .i64 now] 3))
    (hd : ab ≠ sb ∧ kb ≠ sb ∧ nb ≠ sb) (hx : ∀ k, (Value.slice p l.length cap).ownBlock = some k → ab ≠ k ∧ kb ≠ k ∧ sb ≠ k ∧ nb ≠ k)
    (hf : ∀ f ∈ l, (0 ≤ f.seq ∧ f.seq ≤ 1073741824) ∧ 0 ≤ f.at_ ∧ f.at_ ≤ 1099511627776) (h1 : 0 ≤ ack ∧ ack ≤ 1073741824) (h2 : 0 ≤ now ∧ now ≤ 1099511627776) :
    Calls Try.prog 51 #[.slice p l.length cap, .func (.func 52) #[] #[.pointer (some ⟨ab, 0, none⟩), .pointer (some ⟨kb, 0, none⟩), .pointer (some ⟨sb, 0, none⟩), .pointer (some ⟨nb, 0, none⟩)]] w fun e w' =>
      e = .returned (.slice p (l.filter fun f => !told f.seq ack sack).length cap) ∧ Hid (Own 40 7 B w' (.slice p (l.filter fun f => !told f.seq ack sack).length cap) (l.filter fun f => !told f.seq ack sack).length (flat Fl.cells (l.filter fun f => !told f.seq ack sack))) ∧
        Hid (Mod (fun k => (Value.slice p l.length cap).ownBlock = some k ∨ k = sb) w w') ∧ Hid (w'.heap[sb]? = some (.cells #[.int .i64 (l.foldl (sampleOf ack sack now) sm)] 3)) := by
  have HO := Lib.hid h
  have A1 := Lib.hid ha
  have A2 := Lib.hid hk
  have A3 := Lib.hid hs
  have A4 := Lib.hid hn
  have HX := Lib.hid hx
  have HD := Lib.hid hd
  have HF := Lib.hid hf
  have H1 := Lib.hid h1
  have H2 := Lib.hid h2
  have hcap : l.length ≤ cap := by obtain ⟨_, _, e, h⟩ := HO.out.shape; cases e; exact h
  obtain ⟨q, hq⟩ : ∃ q : Fl → Bool, q = fun f => !told f.seq ack sack := ⟨_, rfl⟩
  have HQ := Lib.hid hq
  obtain ⟨S, hS⟩ : ∃ S : Nat → Int, S = fun k => (l.take k).foldl (sampleOf ack sack now) sm := ⟨_, rfl⟩
  have HSS := Lib.hid hS
  -- the closure, asked of element k, in a world in which nothing but the row and the sample have turned
  have HCL := Lib.hid (show ∀ (T : Nat → Prop) k (hk : k < l.length) W, (∀ b, b = ab ∨ b = kb ∨ b = nb → ¬ T b) → Mod T w W → W.heap[sb]? = some (.cells #[.int .i64 (S k)] 3) →
      Calls Try.prog 52 #[.agg #[.int .i64 l[k].seq, .int .i64 l[k].note.user, .int .i64 l[k].note.ver, .int .i64 l[k].note.stat, .int .i64 l[k].note.cnt, .int .i64 l[k].at_, .int .i64 l[k].tries], .pointer (some ⟨ab, 0, none⟩), .pointer (some ⟨kb, 0, none⟩), .pointer (some ⟨sb, 0, none⟩), .pointer (some ⟨nb, 0, none⟩)] W fun e W' =>
        e = .returned (.bool (!q l[k])) ∧ Hid (Mod (· = sb) W W') ∧ Hid (W'.heap[sb]? = some (.cells #[.int .i64 (S (k + 1))] 3)) from fun T k hk W hT hM hsb => by
    have hfk := HF.out l[k] (by simp)
    refine (acked1_any l[k] ab kb sb nb ack sack (S k) now W (hM.keep A1.out (hT _ (.inl rfl))) (hM.keep A2.out (hT _ (.inr (.inl rfl)))) hsb (hM.keep A4.out (hT _ (.inr (.inr rfl)))) hfk.1 H1.out H2.out hfk.2).mono fun e W' ⟨he, hm, hsb'⟩ => ⟨by rw [he, hq]; simp, hm, ?_⟩
    rw [hS] at hsb' ⊢
    simp only at hsb' ⊢
    rw [fold_step hk]; exact hsb')
  clear h ha hk hs hn hx hd hf h1 h2 hq hS
  rw [← HQ.out]
  go_enter Try.func51, Try.ntmps51
  go_wp2_with fail
  refine (indexf_any 52 #[.pointer (some ⟨ab, 0, none⟩), .pointer (some ⟨kb, 0, none⟩), .pointer (some ⟨sb, 0, none⟩), .pointer (some ⟨nb, 0, none⟩)] p cap l (fun f => !q f) (fun k W => Mod (· = sb) w W ∧ W.heap[sb]? = some (.cells #[.int .i64 (S k)] 3)) w cf_acked1 (by omega) hcap ⟨.refl _ _, by rw [HSS.out]; exact A3.out⟩
    (fun k W hW => (HO.out.mod hW.1 (fun j hj e => (HX.out j hj).2.2.1 e.symm)).sl)
    (fun k hk W hW => (HCL.out (· = sb) k hk W (by rintro b (rfl | rfl | rfl); exact HD.out.1; exact HD.out.2.1; exact HD.out.2.2) hW.1 hW.2).mono fun e W' ⟨he, hm, hsb⟩ => ⟨he, Lib.hid ⟨hW.1.trans hm.out, hsb.out⟩⟩)).mono ?_
  rintro e w3 (⟨k, hk, hp, hbefore, rfl, B3⟩ | ⟨hnone, rfl, B3⟩)
  · have HP := Lib.hid (show q l[k] = false by simpa using hp)
    have HBf := Lib.hid (show ∀ j (hj : j < l.length), j < k → q l[j] = true from fun j hj hjk => by simpa using hbefore j hj hjk)
    have HM3 := Lib.hid B3.out.1
    have HS3 := Lib.hid B3.out.2
    have HO3 := Lib.hid (HO.out.mod HM3.out (fun j hj e => (HX.out j hj).2.2.1 e.symm))
    obtain ⟨g, rfl, hg⟩ := own_at HO3.out (by omega)
    obtain ⟨n1, n2, n3, n4⟩ := HX.out g rfl
    have HM3' := Lib.hid (HM3.out.mono (S' := fun k => (Value.slice (some ⟨g, 0, none⟩) l.length cap).ownBlock = some k ∨ k = sb) (fun k hk => .inr hk))
    have HT3 := Lib.hid (keep_first (q := q) hk HP.out HBf.out)
    have t1 : (((k : Int)) == -1) = false := by rw [beq_eq_false_iff_ne]; omega
    clear hp hbefore B3
    go_wp2_with fail
    go_loopw [5, 6] (fun iv jv wr => ∃ (i j : Nat) (R : List Fl), iv = .int .i64 i ∧ jv = .int .i64 j ∧ i < j ∧ j ≤ l.length ∧ R.length = l.length ∧ R.take i = (l.take j).filter q ∧ (∀ t, j ≤ t → R[t]? = l[t]?) ∧ Own 40 7 B wr (.slice (some ⟨g, 0, none⟩) l.length cap) l.length (flat Fl.cells R) ∧
      Mod (fun k => (Value.slice (some ⟨g, 0, none⟩) l.length cap).ownBlock = some k ∨ k = sb) w wr ∧ wr.heap[sb]? = some (.cells #[.int .i64 (S j)] 3)) (fun _ j _ => l.length - (intOf j).toNat)
    case atStart => exact ⟨k, k + 1, l, rfl, by go_num, by omega, by omega, rfl, HT3.out.symm, fun _ _ => rfl, HO3.out, HM3'.out, HS3.out⟩
    case round =>
      obtain ⟨i, j, R, rfl, rfl, hij, hj, hR, htk, htl, hown, hmod, hsb⟩ := hrel
      have HRo := Lib.hid hown
      have HRm := Lib.hid hmod
      have HRs := Lib.hid hsb
      have HRl := Lib.hid hR
      have HRt := Lib.hid htk
      have HRd := Lib.hid htl
      clear hown hmod hsb hR htk htl
      by_cases hlt : j < l.length
      · obtain ⟨x, hx⟩ : ∃ x, x = l[j] := ⟨_, rfl⟩
        have hjR : j < R.length := by rw [HRl.out]; exact hlt
        have hRx : x = R[j] := by
          have := HRd.out j (Nat.le_refl _)
          rw [List.getElem?_eq_getElem hjR, List.getElem?_eq_getElem hlt] at this
          rw [hx]; simpa using this.symm
        have HXx := Lib.hid hx
        have FS : Hid (Fls wr (.slice (some ⟨g, 0, none⟩) l.length cap) R) := Lib.hid (by unfold Fls; rw [HRl.out]; exact HRo.out.sl)
        obtain ⟨c0, c1, c2, c3, c4, c5, c6⟩ := fls_row FS (Below.refl _ _) j hjR x hRx
        simp only [Nat.zero_add] at c0 c1 c2 c3 c4 c5 c6
        have t2 : (j : Int) < (l.length : Int) := by omega
        have t3 : (0 : Int) ≤ (j : Int) := by omega
        have t4 : (0 : Int) ≤ (i : Int) := by omega
        have t5 : (i : Int) < (l.length : Int) := by omega
        have hjl : j ≤ 1000 := by omega
        clear hx hRx
        have hgw := Own.lt HRo.out g rfl
        have hsw := block_lt HRs.out
        go_upto_region 8 with fail
        refine gen_wp (fun w4 => Hid (w4.heap[wr.heap.size]? = some (.cells #[.int .i64 x.seq, .int .i64 x.note.user, .int .i64 x.note.ver, .int .i64 x.note.stat, .int .i64 x.note.cnt, .int .i64 x.at_, .int .i64 x.tries] 40)) ∧ Hid (Own 40 7 B w4 (.slice (some ⟨g, 0, none⟩) l.length cap) l.length (flat Fl.cells R)) ∧ Hid (Mod (fun k => (Value.slice (some ⟨g, 0, none⟩) l.length cap).ownBlock = some k ∨ k = sb) w w4) ∧ Hid (w4.heap[sb]? = some (.cells #[.int .i64 (S j)] 3)) ∧ Hid (w4.heap.size = wr.heap.size + 1) ∧ True) ⟨Lib.hid (by first | (simp [World.setCell, Array.getElem?_modify]; done) | (simp [World.setCell, Array.getElem?_modify]; omega) | ((repeat (first | (with_reducible exact heap_new _ _ _ (by first | rfl | (simp; done))) | (with_reducible refine keepa ?_ _) | (simp [World.setCell, Array.getElem?_modify]; done))); done)), Lib.hid (HRo.out.alloc _), Lib.hid (HRm.out.alloc _), Lib.hid (keepa HRs.out _), Lib.hid (by simp), trivial⟩ ?_
        clear c0 c1 c2 c3 c4 c5 c6
        rintro w4 ⟨B0, HRo, HRm, HRs, HWZ, -⟩
        have c_B0 := cell_of_block B0.out
        have f_B0 := frozen_of_block B0.out
        have HCx := Lib.hid (HCL.out _ j hlt w4 (by
          rintro b (rfl | rfl | rfl) (h | h)
          · exact n1 (by cases h; rfl)
          · exact HD.out.1 h
          · exact n2 (by cases h; rfl)
          · exact HD.out.2.1 h
          · exact n4 (by cases h; rfl)
          · exact HD.out.2.2 h) HRm.out HRs.out)
        rw [← HXx.out] at HCx
        have hne0 : wr.heap.size ≠ sb := by omega
        have hneg : wr.heap.size ≠ g := by omega
        go_wp2_with fail
        refine HCx.out.mono ?_
        rintro e w5 ⟨rfl, M5, S5⟩
        have HRo5 := Lib.hid (HRo.out.mod M5.out (fun k hk e => n3 (by cases hk; exact e.symm)))
        have HRm5 := Lib.hid (HRm.out.trans (M5.out.mono (fun k hk => .inr hk)))
        have B05 := Lib.hid (M5.out.keep B0.out hne0)
        clear c_B0 f_B0
        have c_B0 := cell_of_block B05.out
        have HK1 := Lib.hid (show (l.take (j + 1)).filter q = (l.take j).filter q ++ (if q x = true then [x] else []) by rw [keep_step hlt, HXx.out])
        cases hqx : q x
        · have HT2 := Lib.hid (show R.take i = (l.take (j + 1)).filter q by rw [HK1.out, hqx, HRt.out]; simp)
          clear hqx
          go_wp2_with fail
          go_roundw
          case rel => exact ⟨i, j + 1, R, rfl, by go_num, by omega, by omega, HRl.out, HT2.out, fun t ht => HRd.out t (by omega), HRo5.out, HRm5.out, S5.out⟩
          case measure => simp [intOf]; omega
        · have hiR : i < R.length := by rw [HRl.out]; omega
          have HT2 := Lib.hid (show (R.set i x).take (i + 1) = (l.take (j + 1)).filter q by rw [set_take hiR, HK1.out, hqx, HRt.out]; simp)
          have FS5 : Hid (Fls w5 (.slice (some ⟨g, 0, none⟩) l.length cap) R) := Lib.hid (by unfold Fls; rw [HRl.out]; exact HRo5.out.sl)
          obtain ⟨c0, c1, c2, c3, c4, c5, c6⟩ := fls_row FS5 (Below.refl _ _) i hiR _ rfl
          simp only [Nat.zero_add] at c0 c1 c2 c3 c4 c5 c6
          have ff := fun i => (HRo5.out.frozen i).2.2
          clear hqx
          go_wp2_with fail
          go_roundw
          case rel =>
            refine ⟨i + 1, j + 1, R.set i x, by go_num, by go_num, by omega, by omega, by rw [List.length_set]; exact HRl.out, HT2.out, fun t ht => by rw [List.getElem?_set_ne (by omega)]; exact HRd.out t (by omega), ?_, ?_, by simp [World.setCell, Array.getElem?_modify, S5.out, n3, n3.symm]⟩
            · have h7 := (((((((HRo5.out.store (i * 7) (.int .i64 x.seq)).2.store (i * 7 + 1) (.int .i64 x.note.user)).2.store (i * 7 + 2) (.int .i64 x.note.ver)).2.store (i * 7 + 3) (.int .i64 x.note.stat)).2.store (i * 7 + 4) (.int .i64 x.note.cnt)).2.store (i * 7 + 5) (.int .i64 x.at_)).2.store (i * 7 + 6) (.int .i64 x.tries)).2
              rw [copy_cells hiR x] at h7
              exact h7
            · exact (by (repeat (first | (with_reducible exact HRm5.out) | (with_reducible refine Mod.set ?_ _ _ (by first | exact Or.inl rfl | exact Or.inl (Or.inl rfl) | exact Or.inl (Or.inr rfl) | exact Or.inl (Or.inr (Or.inl rfl)) | exact Or.inl (Or.inr (Or.inr rfl)) | (refine Or.inr ?_; first | omega | (simp; done) | (simp; omega)))) | (with_reducible refine Mod.alloc ?_ _) | (with_reducible refine Mod.drew ?_) | (with_reducible refine Mod.drewN ?_ _))); first | done | fail "left")
          case measure => simp [intOf]; omega
      · have hke : j = l.length := by omega
        subst hke
        have t2 : decide ((l.length : Int) < (l.length : Int)) = false := by simp
        have t4 : (0 : Int) ≤ (i : Int) := by omega
        have t5 : (i : Int) < (l.length : Int) := by omega
        have t6 : (i : Int) ≤ (l.length : Int) := by omega
        have t7 : (i : Int) ≤ (cap : Int) := by omega
        have HT2 := Lib.hid (show R.take i = l.filter q by rw [HRt.out, List.take_length])
        have HSl := Lib.hid (show S l.length = l.foldl (sampleOf ack sack now) sm by rw [HSS.out]; simp only [List.take_length])
        obtain ⟨zs, hclear⟩ := clear_fl HRo.out HRl.out i (by omega)
        go_wp2_with fail
        have hlen : (l.filter q).length = i := by rw [← HT2.out, List.length_take, HRl.out]; omega
        have HLen := Lib.hid hlen
        have HRn := Lib.hid (HRo.out.cutback i (by omega) zs)
        clear hlen
        go_ret
        refine ⟨by rw [HLen.out]; rfl, Lib.hid ?_, Lib.hid (mod_setCells zs _ _ HRm.out (.inl rfl)), Lib.hid ?_⟩
        · rw [HLen.out, ← HT2.out, ← flat_take fl_seven]; exact HRn.out
        · rw [← HSl.out]
          exact (mod_setCells (S := (· = g)) zs _ _ (.refl _ _) rfl).keep HRs.out n3
  · have HE := Lib.hid (show l.filter q = l from keep_all fun j hj => by have := hnone j hj; simpa using this)
    clear hnone
    go_wp2_with fail
    go_ret
    refine ⟨by rw [HE.out]; rfl, Lib.hid (by rw [HE.out]; exact HO.out.mod B3.out.1 (fun j hj e => (HX.out j hj).2.2.1 e.symm)), Lib.hid (B3.out.1.mono fun k hk => .inr hk), Lib.hid ?_⟩
    have := B3.out.2
    simp only [HSS.out, List.take_length] at this
    exact this
end Go.Proofs.Yteilgibfmljoeaa.K
