/-
  CONTRACTS of nightjarref23's Twice, One, Same.
-/
import Derived.Test.YtkgngfjlmkclcaaNetRef3
import Derived.Lib.BufferRead
set_option linter.unusedVariables false
set_option linter.unusedSimpArgs false
namespace Go.Proofs.Ytkgngfjlmkclcaa.K
open Go Go.RowKit Nj

set_option maxHeartbeats 2000000 in
theorem qtwice_any (B nb : Nat) (S T : Nat → Prop) (n : Nw) (k : Int) (w : World) (h : NetQ B nb S T n w) (hB : B ≤ w.heap.size) (hn : n.l.length ≤ 64) (hk : -9223372036854775808 ≤ k ∧ k ≤ 9223372036854775807)
    (hle : ∀ d ∈ n.l, d.bs.length ≤ 140737488355328) (hg : 0 ≤ n.g ∧ n.g + 1 ≤ 1099511627776) :
    Calls Try.prog 18 #[.pointer (some ⟨nb, 0, none⟩), .int .i64 k] w fun e w' =>
      (n.l.length = 0 ∧ e = .returned (.bool false) ∧ w = w') ∨ (∃ (i : Nat) (d : Dg), i = ntPlace k n.l.length ∧ n.l[i]? = some d ∧ e = .returned (.bool true) ∧
      Hid (NetQ B nb (fun b => S b ∨ w.heap.size ≤ b) (fun b => T b ∨ w.heap.size ≤ b) (ntSend1 n d) w') ∧ Hid (Mod (fun b => S b ∨ b = nb) w w')) := by
  obtain ⟨p, cap, ds, hds, hnet, hS, hT⟩ := h
  have HN := Lib.hid hnet
  have HX := Lib.hid hnet.box
  have HO := Lib.hid hnet.row
  have HLe := Lib.hid hle
  have HS := Lib.hid hS
  have HT := Lib.hid hT
  have hml : ds.length = n.l.length := by rw [← hds, List.length_map]
  have HDs := Lib.hid hds
  have HML := Lib.hid hml
  have HG := Lib.hid hg
  have HL64 := Lib.hid hn
  have hdl : ds.length ≤ 1048576 := by omega
  have c_X := cell_of_block HX.out
  clear hnet hle hS hT hds hg hn
  by_cases h0 : ds.length = 0
  · have HZ := Lib.hid h0
    clear hml h0
    go_enter Try.func18, Try.ntmps18
    go_wp2_with fail
    refine (qplace_any nb _ ds.length cap n.g k _ HX.out hdl hk).mono ?_
    rintro e w1 ⟨he, rfl⟩
    rw [if_pos HZ.out] at he
    subst he
    go_wp2_with fail
    go_ret
    exact .inl ⟨by rw [← HML.out]; exact HZ.out, rfl, rfl⟩
  · have HZ := Lib.hid h0
    obtain ⟨i, hi⟩ : ∃ i, i = ntPlace k ds.length := ⟨_, rfl⟩
    have hil : i < ds.length := by rw [hi]; exact ntPlace_lt k (by omega)
    obtain ⟨d, hd⟩ : ∃ d, d = ds[i] := ⟨_, rfl⟩
    obtain ⟨gb, rfl⟩ : ∃ gb, p = some ⟨gb, 0, none⟩ := by
      rcases own_head HO.out with e | ⟨gb, e⟩
      · subst e
        obtain ⟨b, o, e, _⟩ := HO.out.sl.open (by omega)
        cases e
      · exact ⟨gb, e⟩
    obtain ⟨r0, r1, r2⟩ := dsl_row HO.out.sl i hil d hd
    simp only [Nat.zero_add] at r0 r1 r2
    have HI := Lib.hid hi
    have HD := Lib.hid hd
    have t1 : (0 : Int) ≤ (i : Int) := by omega
    have t2 : (i : Int) < (ds.length : Int) := by omega
    have t3 : decide ((i : Int) < 0) = false := dec_f (by omega)
    have HCap := Lib.hid (show ds.length ≤ cap by obtain ⟨_, _, e, h⟩ := HO.out.shape; cases e; exact h)
    clear hi hd hml h0
    go_enter Try.func18, Try.ntmps18
    go_wp2_with fail
    refine (qplace_any nb _ ds.length cap n.g k _ HX.out hdl hk).mono ?_
    rintro e w1 ⟨he, rfl⟩
    rw [if_neg HZ.out, ← HI.out] at he
    subst he
    have hgl : gb < w.heap.size := Own.lt HO.out gb rfl
    have hnl : nb < w.heap.size := block_lt HX.out
    have HR1 := Lib.hid (show NetQ B nb (fun b => (Value.slice (some ⟨gb, 0, none⟩) ds.length cap).ownBlock = some b) (fun b => ∃ e ∈ ds, e.sl.ownBlock = some b) n (w.alloc (.cells #[.int .i64 d.fr, .int .i64 d.tt, .slice d.p d.bs.length d.cap] 33)) from
      ⟨_, _, ds, HDs.out, HN.out.keep (below_alloc _ _), fun b hb => hb, fun e he b hb => ⟨e, he, hb⟩⟩)
    have hmem : d ∈ ds := by rw [HD.out]; simp
    have HDb := Lib.hid (HN.out.bts d hmem)
    have HDg := Lib.hid (show ∀ W, Mod (fun b => (Value.slice (some ⟨gb, 0, none⟩) ds.length cap).ownBlock = some b ∨ b = nb) (w.alloc (.cells #[.int .i64 d.fr, .int .i64 d.tt, .slice d.p d.bs.length d.cap] 33)) W → Dgs W (.slice (some ⟨w.heap.size, 0, none⟩) 1 1) [d] from fun W M => by
      refine ⟨?_, fun e he => ?_⟩
      · have h1 : Own 33 3 w.heap.size (w.alloc (.cells #[.int .i64 d.fr, .int .i64 d.tt, .slice d.p d.bs.length d.cap] 33)) (.slice (some ⟨w.heap.size, 0, none⟩) 1 1) 1 (flat Dv.cells [d]) := own_lit _ _ _ _ _ _ _ rfl (Nat.le_refl _) (by decide) rfl _ (by simp [flat, Dv.cells])
        exact (h1.mod M (fun b hb e => by
          have e1 : w.heap.size = b := by simpa [Value.ownBlock] using hb
          rcases e with e | e
          · have e2 : gb = b := by simpa [Value.ownBlock] using e
            omega
          · omega)).sl
      · simp only [List.mem_singleton] at he
        subst he
        refine OwnB.bts (Own.mod (Own.alloc HDb.out _) M (fun b hb e => ?_))
        rcases e with e | e
        · exact own_apart HO.out HDb.out (by decide) b e hb
        · subst e; exact own_box HDb.out HX.out (by decide) hb)
    have HLd := Lib.hid (show ∀ x ∈ [d], x.bs.length ≤ 140737488355328 from fun x hx => by
      simp only [List.mem_singleton] at hx
      subst hx
      exact HLe.out x.con (by rw [← HDs.out]; exact List.mem_map_of_mem hmem))
    go_wp2_with fail
    have hgg := HG.out
    clear c_X r0 r1 r2
    refine (qsend_any B nb _ _ n _ [d] _ HR1.out (by simp; omega) HL64.out HDg.out (by simp) HLd.out (by simp; omega)).mono ?_
    rintro e w2 ⟨rfl, R2, M2⟩
    clear hgg
    go_wp2_with fail
    go_ret
    refine .inr ⟨i, d.con, by rw [← HML.out]; exact HI.out, by rw [← HDs.out, List.getElem?_map, List.getElem?_eq_getElem hil, ← HD.out]; rfl, rfl, Lib.hid ?_, Lib.hid ?_⟩
    · refine netr_mono (show NetQ B nb _ _ (ntSend1 n d.con) w2 from R2.out) (fun b hb => ?_) (fun b hb => ?_)
      · rcases hb with hb | hb
        · exact .inl (HS.out b hb)
        · exact .inr (by simp at hb; omega)
      · rcases hb with ⟨e, he, hb⟩ | hb
        · exact .inl (HT.out e he b hb)
        · exact .inr (by simp at hb; omega)
    · exact (Mod.of_below _ (below_alloc _ _)).trans (M2.out.mono (fun b hb => hb.elim (fun h => .inl (HS.out b h)) .inr))

/-- bytes as a string -/
theorem str_bts (d : Dv) (w : World) (h : Bts w d) : (convert 31 9 (.slice d.p d.bs.length d.cap)).run Try.prog w = .ok (.string (strOfNums d.bs)) w := by
  obtain ⟨fr, tt, p, cap, bs⟩ := d
  simp only
  by_cases h0 : 0 < bs.length
  · obtain ⟨b, o, rfl, hc⟩ := Sl.open h h0
    refine run_convert_bytes_arg w 31 5 Try.underlying31 Try.underlying5 b o bs.length cap bs rfl (fun i hi => ?_) 9 Try.underlying9
    rw [hc i (by rw [u8s_len]; exact hi)]
    simp [u8s, List.getD_eq_getElem?_getD, List.getElem?_eq_getElem hi]
  · have hb : bs = [] := List.length_eq_zero_iff.1 (by omega)
    subst hb
    rw [run_convert_bytes_string w 31 9 5 p _ cap Try.underlying31 Try.underlying5 Try.underlying9]
    cases p <;> simp [Conv.bytesToString, loadCells]
    all_goals rfl

set_option maxHeartbeats 1000000 in
/-- the same bytes, wherever they lie: the same datagram -/
theorem one_any (a b : Dv) (w : World) (ha : Bts w a) (hb : Bts w b) (h : a.con = b.con) :
    Calls Try.prog 14 #[.agg #[.int .i64 a.fr, .int .i64 a.tt, .slice a.p a.bs.length a.cap], .agg #[.int .i64 b.fr, .int .i64 b.tt, .slice b.p b.bs.length b.cap]] w fun e w' => e = .returned (.bool true) ∧ Hid (Below w.heap.size w w') := by
  obtain ⟨fr, tt, p, cap, bs⟩ := a
  obtain ⟨fr', tt', p', cap', bs'⟩ := b
  simp only [Dv.con, Dg.mk.injEq] at h
  obtain ⟨rfl, rfl, rfl⟩ := h
  have HA := Lib.hid ha
  have HB := Lib.hid hb
  clear ha hb
  simp only
  have t1 := beq_self_eq_true fr
  have t2 := beq_self_eq_true tt
  go_enter Try.func14, Try.ntmps14
  go_upto_region 1 with fail
  refine gen_wp (fun w1 => Hid (w1.heap[w.heap.size]? = some (.cells #[.int .i64 fr, .int .i64 tt, .slice p bs.length cap] 33)) ∧ Hid (w1.heap[(w.heap.size + 1)]? = some (.cells #[.int .i64 fr, .int .i64 tt, .slice p' bs.length cap'] 33)) ∧ Hid (Below w.heap.size w w1) ∧ True) ⟨Lib.hid (by first | (simp [World.setCell, Array.getElem?_modify]; done) | (simp [World.setCell, Array.getElem?_modify]; omega) | ((repeat (first | (with_reducible exact heap_new _ _ _ (by first | rfl | (simp; done))) | (with_reducible refine keepa ?_ _) | (simp [World.setCell, Array.getElem?_modify]; done))); done)), Lib.hid (by first | (simp [World.setCell, Array.getElem?_modify]; done) | (simp [World.setCell, Array.getElem?_modify]; omega) | ((repeat (first | (with_reducible exact heap_new _ _ _ (by first | rfl | (simp; done))) | (with_reducible refine keepa ?_ _) | (simp [World.setCell, Array.getElem?_modify]; done))); done)), Lib.hid (by repeat (first | (with_reducible exact Below.refl _ _) | (with_reducible refine bel_set (by first | omega | (simp; done) | (simp; omega)) ?_) | (with_reducible refine bel_alloc (by first | omega | (simp; done) | (simp; omega)) ?_) | (with_reducible refine bel_drew ?_) | (with_reducible refine bel_drewN ?_ _))), trivial⟩ ?_
  rintro w1 ⟨A1, A2, BA, -⟩
  have c_A1 := cell_of_block A1.out
  have f_A1 := frozen_of_block A1.out
  have c_A2 := cell_of_block A2.out
  have f_A2 := frozen_of_block A2.out
  have s1 := str_bts ⟨fr, tt, p, cap, bs⟩ w1 (HA.out.keep BA.out)
  have s2 := str_bts ⟨fr, tt, p', cap', bs⟩ w1 (HB.out.keep BA.out)
  simp only at s1 s2
  go_wp2_with fail
  go_ret
  exact ⟨rfl, BA⟩

set_option maxHeartbeats 1000000 in
theorem same_any (va vb : Value) (la lb : List Dv) (w : World) (ha : Dgs w va la) (hb : Dgs w vb lb) (h : la.map Dv.con = lb.map Dv.con) (hl : la.length ≤ 1048576) :
    Calls Try.prog 20 #[va, vb] w fun e w' => e = .returned (.bool true) ∧ Hid (Below w.heap.size w w') := by
  have HA := Lib.hid ha
  have HB := Lib.hid hb
  obtain ⟨pa, capa, rfl, hca⟩ := dgs_shape ha
  obtain ⟨pb, capb, rfl, hcb⟩ := dgs_shape hb
  have hlen : lb.length = la.length := by have := congrArg List.length h; simpa using this.symm
  have HC := Lib.hid (show ∀ i (hi : i < la.length) (hj : i < lb.length), la[i].con = lb[i].con from fun i hi hj => by
    have := congrArg (fun l => l[i]?) h
    simpa [List.getElem?_eq_getElem hi, List.getElem?_eq_getElem hj] using this)
  clear ha hb h
  rw [hlen] at hcb HB ⊢
  have HLn := Lib.hid hlen
  clear hlen
  have t0 : ((la.length : Int) != (la.length : Int)) = false := by simp
  go_enter Try.func20, Try.ntmps20
  go_wp2_with fail
  go_loopw [5] (fun i wr => ∃ k : Nat, k ≤ la.length ∧ i = .int .i64 k ∧ Below w.heap.size w wr) (fun i _ => la.length - (intOf i).toNat)
  case atStart => exact ⟨0, by omega, rfl, Below.refl _ _⟩
  case round =>
    obtain ⟨k, hk, rfl, hwb⟩ := hrel
    have HW := Lib.hid hwb
    clear hwb
    by_cases hlt : k < la.length
    · have hlb : k < lb.length := by rw [HLn.out]; exact hlt
      obtain ⟨a, hae⟩ : ∃ a, a = la[k] := ⟨_, rfl⟩
      obtain ⟨b, hbe⟩ : ∃ b, b = lb[k] := ⟨_, rfl⟩
      obtain ⟨ba, oa, rfl, _⟩ := HA.out.1.open (by omega)
      obtain ⟨bb, ob, rfl, _⟩ := Sl.open (show Sl 3 w (.slice pb lb.length capb) lb.length (flat Dv.cells lb) by rw [HLn.out]; exact (by have := HB.out.1; rw [HLn.out] at this; exact this)) (by omega)
      have HRa := Lib.hid (fun W (B : Below wr.heap.size wr W) => dsl_row (Sl.keep (by decide) (Sl.keep (by decide) HA.out.1 HW.out) B) k hlt a hae)
      have HRb := Lib.hid (fun W (B : Below wr.heap.size wr W) => dsl_row (Sl.keep (by decide) (Sl.keep (by decide) HB.out.1 HW.out) B) k hlb b hbe)
      have HCk := Lib.hid (show a.con = b.con by rw [hae, hbe]; exact HC.out k hlt hlb)
      have HBa := Lib.hid (show Bts wr a from (HA.out.2 a (by rw [hae]; simp)).keep HW.out)
      have HBb := Lib.hid (show Bts wr b from (HB.out.2 b (by rw [hbe]; simp)).keep HW.out)
      clear hae hbe
      have t1 : (k : Int) < (la.length : Int) := by omega
      have t2 : (0 : Int) ≤ (k : Int) := by omega
      obtain ⟨r0, r1, r2⟩ := HRa.out wr (Below.refl _ _)
      obtain ⟨q0, q1, q2⟩ := HRb.out wr (Below.refl _ _)
      have HCall := Lib.hid (fun d os => reg_of (one_any a b (Go.Sort.grow (redrawn wr d) os) (HBa.out.keep (below_regrown wr d os)) (HBb.out.keep (below_regrown wr d os)) HCk.out))
      have z0 := fun d os => (HRa.out _ (below_regrown wr d os)).1
      have z1 := fun d os => (HRa.out _ (below_regrown wr d os)).2.1
      have z2 := fun d os => (HRa.out _ (below_regrown wr d os)).2.2
      have z3 := fun d os => (HRb.out _ (below_regrown wr d os)).1
      have z4 := fun d os => (HRb.out _ (below_regrown wr d os)).2.1
      have z5 := fun d os => (HRb.out _ (below_regrown wr d os)).2.2
      go_wp2_with fail
      refine wp_region_quiet_below (by kernel_rfl) (by kernel_rfl) ?_
      (try simp only [List.append_eq, List.cons_append, List.nil_append])
      repeat (first | go_big_quiet_skip | (go_big_quiet_want; go_big_quiet_op; first | go_big_quiet_on | (apply Exists.intro; refine ⟨fun _ => ?_, ?_⟩; (focus ((first | (go_at_call 14; with_reducible exact HCall.out _ _)))); go_big_quiet_on)))
      refine wpQuiet_nil ?_
      intro _ hw'
      obtain ⟨⟨dq, osq⟩, hw''⟩ := hw'
      subst hw''
      have BQ := Lib.hid (below_regrown wr dq osq)
      generalize Go.Sort.grow (redrawn wr dq) osq = wq at BQ ⊢
      clear z0 z1 z2 z3 z4 z5 r0 r1 r2 q0 q1 q2
      go_wp2_with fail
      go_roundw
      case rel => exact ⟨k + 1, by omega, by go_num, chain HW.out BQ.out⟩
      case measure => simp [intOf]; omega
    · have hke : k = la.length := by omega
      subst hke
      have t1 : decide ((la.length : Int) < (la.length : Int)) = false := by simp
      go_wp2_with fail
      go_ret
      exact ⟨rfl, HW⟩

end Go.Proofs.Ytkgngfjlmkclcaa.K
