/-
  CONTRACTS of net's Twice, All; Take, Lose, Len, Lost of a net that holds n.
-/
import Derived.Test.YtkgngfjlmkclcaaNet4
set_option linter.unusedVariables false
set_option linter.unusedSimpArgs false
namespace Go.Proofs.Ytkgngfjlmkclcaa.K
open Go Go.RowKit Nj

set_option maxHeartbeats 2000000 in
theorem ntwice_any (B nb : Nat) (S T : Nat → Prop) (n : Nw) (k : Int) (w : World) (h : NetR B nb S T n w) (hB : B ≤ w.heap.size) (hn : n.l.length ≤ 64) (hk : -9223372036854775808 ≤ k ∧ k ≤ 9223372036854775807)
    (hle : ∀ d ∈ n.l, d.bs.length ≤ 140737488355328) (hg : 0 ≤ n.g ∧ n.g + 1 ≤ 1099511627776) :
    Calls Try.prog 17 #[.pointer (some ⟨nb, 0, none⟩), .int .i64 k] w fun e w' =>
      (n.l.length = 0 ∧ e = .returned (.bool false) ∧ w = w') ∨ (∃ (i : Nat) (d : Dg), i = ntPlace k n.l.length ∧ n.l[i]? = some d ∧ e = .returned (.bool true) ∧
      Hid (NetR B nb (fun b => S b ∨ w.heap.size ≤ b) (fun b => T b ∨ w.heap.size ≤ b) (ntSend1 n d) w') ∧ Hid (Mod (fun b => S b ∨ b = nb) w w')) := by
  obtain ⟨p, cap, ds, hds, hnet, hS, hT⟩ := h
  have HN := Lib.hid hnet
  have HX := Lib.hid hnet.box
  have HO := Lib.hid hnet.row
  have HLe := Lib.hid hle
  have HS := Lib.hid hS
  have HT := Lib.hid hT
  have hml : ds.length = n.l.length := by rw [← hds, List.length_map]
  have HDs := Lib.hid hds
  have HML := Lib.hid hml
  have HG := Lib.hid hg
  have HL64 := Lib.hid hn
  have hdl : ds.length ≤ 1048576 := by omega
  have c_X := cell_of_block HX.out
  clear hnet hle hS hT hds hg hn
  by_cases h0 : ds.length = 0
  · have HZ := Lib.hid h0
    clear hml h0
    go_enter Try.func17, Try.ntmps17
    go_wp2_with fail
    refine (nplace_any nb _ ds.length cap n.g k _ HX.out hdl hk).mono ?_
    rintro e w1 ⟨he, rfl⟩
    rw [if_pos HZ.out] at he
    subst he
    go_wp2_with fail
    go_ret
    exact .inl ⟨by rw [← HML.out]; exact HZ.out, rfl, rfl⟩
  · have HZ := Lib.hid h0
    obtain ⟨i, hi⟩ : ∃ i, i = ntPlace k ds.length := ⟨_, rfl⟩
    have hil : i < ds.length := by rw [hi]; exact ntPlace_lt k (by omega)
    obtain ⟨d, hd⟩ : ∃ d, d = ds[i] := ⟨_, rfl⟩
    obtain ⟨gb, rfl⟩ : ∃ gb, p = some ⟨gb, 0, none⟩ := by
      rcases own_head HO.out with e | ⟨gb, e⟩
      · subst e
        obtain ⟨b, o, e, _⟩ := HO.out.sl.open (by omega)
        cases e
      · exact ⟨gb, e⟩
    obtain ⟨r0, r1, r2⟩ := dsl_row HO.out.sl i hil d hd
    simp only [Nat.zero_add] at r0 r1 r2
    have HI := Lib.hid hi
    have HD := Lib.hid hd
    have t1 : (0 : Int) ≤ (i : Int) := by omega
    have t2 : (i : Int) < (ds.length : Int) := by omega
    have HCap := Lib.hid (show ds.length ≤ cap by obtain ⟨_, _, e, h⟩ := HO.out.shape; cases e; exact h)
    clear hi hd hml h0
    go_enter Try.func17, Try.ntmps17
    go_wp2_with fail
    refine (nplace_any nb _ ds.length cap n.g k _ HX.out hdl hk).mono ?_
    rintro e w1 ⟨he, rfl⟩
    rw [if_neg HZ.out, ← HI.out] at he
    subst he
    have hgl : gb < w.heap.size := Own.lt HO.out gb rfl
    have hnl : nb < w.heap.size := block_lt HX.out
    have HR1 := Lib.hid (show NetR B nb (fun b => (Value.slice (some ⟨gb, 0, none⟩) ds.length cap).ownBlock = some b) (fun b => ∃ e ∈ ds, e.sl.ownBlock = some b) n (w.alloc (.cells #[.int .i64 d.fr, .int .i64 d.tt, .slice d.p d.bs.length d.cap] 33)) from
      ⟨_, _, ds, HDs.out, HN.out.keep (below_alloc _ _), fun b hb => hb, fun e he b hb => ⟨e, he, hb⟩⟩)
    have hmem : d ∈ ds := by rw [HD.out]; simp
    have HDb := Lib.hid (HN.out.bts d hmem)
    have HDg := Lib.hid (show ∀ W, Mod (fun b => (Value.slice (some ⟨gb, 0, none⟩) ds.length cap).ownBlock = some b ∨ b = nb) (w.alloc (.cells #[.int .i64 d.fr, .int .i64 d.tt, .slice d.p d.bs.length d.cap] 33)) W → Dgs W (.slice (some ⟨w.heap.size, 0, none⟩) 1 1) [d] from fun W M => by
      refine ⟨?_, fun e he => ?_⟩
      · have h1 : Own 33 3 w.heap.size (w.alloc (.cells #[.int .i64 d.fr, .int .i64 d.tt, .slice d.p d.bs.length d.cap] 33)) (.slice (some ⟨w.heap.size, 0, none⟩) 1 1) 1 (flat Dv.cells [d]) := own_lit _ _ _ _ _ _ _ rfl (Nat.le_refl _) (by decide) rfl _ (by simp [flat, Dv.cells])
        exact (h1.mod M (fun b hb e => by
          have e1 : w.heap.size = b := by simpa [Value.ownBlock] using hb
          rcases e with e | e
          · have e2 : gb = b := by simpa [Value.ownBlock] using e
            omega
          · omega)).sl
      · simp only [List.mem_singleton] at he
        subst he
        refine OwnB.bts (Own.mod (Own.alloc HDb.out _) M (fun b hb e => ?_))
        rcases e with e | e
        · exact own_apart HO.out HDb.out (by decide) b e hb
        · subst e; exact own_box HDb.out HX.out (by decide) hb)
    have HLd := Lib.hid (show ∀ x ∈ [d], x.bs.length ≤ 140737488355328 from fun x hx => by
      simp only [List.mem_singleton] at hx
      subst hx
      exact HLe.out x.con (by rw [← HDs.out]; exact List.mem_map_of_mem hmem))
    go_wp2_with fail
    have hgg := HG.out
    clear c_X r0 r1 r2
    refine (nsend_any B nb _ _ n _ [d] _ HR1.out (by simp; omega) HL64.out HDg.out (by simp) HLd.out (by simp; omega)).mono ?_
    rintro e w2 ⟨rfl, R2, M2⟩
    clear hgg
    go_wp2_with fail
    go_ret
    refine .inr ⟨i, d.con, by rw [← HML.out]; exact HI.out, by rw [← HDs.out, List.getElem?_map, List.getElem?_eq_getElem hil, ← HD.out]; rfl, rfl, Lib.hid ?_, Lib.hid ?_⟩
    · refine netr_mono (show NetR B nb _ _ (ntSend1 n d.con) w2 from R2.out) (fun b hb => ?_) (fun b hb => ?_)
      · rcases hb with hb | hb
        · exact .inl (HS.out b hb)
        · exact .inr (by simp at hb; omega)
      · rcases hb with ⟨e, he, hb⟩ | hb
        · exact .inl (HT.out e he b hb)
        · exact .inr (by simp at hb; omega)
    · exact (Mod.of_below _ (below_alloc _ _)).trans (M2.out.mono (fun b hb => hb.elim (fun h => .inl (HS.out b h)) .inr))

/-- what All tells: each datagram with bytes of its own -/
def AllD (B : Nat) (w : World) (v : Value) (ds : List Dv) : Prop := Own 33 3 B w v ds.length (flat Dv.cells ds) ∧ ∀ d ∈ ds, OwnB 5 B w d

set_option maxHeartbeats 2000000 in
theorem nall_any (B nb : Nat) (S T : Nat → Prop) (n : Nw) (w : World) (h : NetR B nb S T n w) (hn : n.l.length ≤ 64) (hle : ∀ d ∈ n.l, d.bs.length ≤ 140737488355328) :
    Calls Try.prog 19 #[.pointer (some ⟨nb, 0, none⟩)] w fun e w' => ∃ p cap ds, e = .returned (.slice p ds.length cap) ∧ ds.map Dv.con = n.l ∧ Hid (AllD w.heap.size w' (.slice p ds.length cap) ds) ∧ Hid (Below w.heap.size w w') := by
  obtain ⟨p, cap, ds, hds, hnet, hS, hT⟩ := h
  have HN := Lib.hid hnet
  have HX := Lib.hid hnet.box
  have HO := Lib.hid hnet.row
  have hml : ds.length ≤ 64 := by rw [← hds, List.length_map] at hn; exact hn
  have HDs := Lib.hid hds
  have HLe := Lib.hid (show ∀ d ∈ ds, d.bs.length ≤ 140737488355328 from fun d hd => hle d.con (by rw [← hds]; exact List.mem_map_of_mem hd))
  have c_X := cell_of_block HX.out
  clear hnet hle hS hT hds hn
  go_enter Try.func19, Try.ntmps19
  go_wp2_with fail
  go_loopw [2, 10] (fun v i wr => ∃ (k : Nat) (q : Option Addr) (cq : Nat) (es : List Dv), k ≤ ds.length ∧ i = .int .i64 k ∧ v = .slice q es.length cq ∧ es.length = k ∧ es.map Dv.con = (ds.take k).map Dv.con ∧ AllD w.heap.size wr (.slice q es.length cq) es ∧ Below w.heap.size w wr) (fun _ i _ => ds.length - (intOf i).toNat)
  case atStart => exact ⟨0, none, 0, [], by omega, rfl, rfl, rfl, rfl, ⟨own_nil _ _ _ _, fun d hd => by cases hd⟩, Below.refl _ _⟩
  case round =>
    obtain ⟨k, q, cq, es, hk, rfl, rfl, hes, hcon, hall, hwb⟩ := hrel
    have HB := Lib.hid hwb
    have HA := Lib.hid hall.1
    have HAb := Lib.hid hall.2
    have HEs := Lib.hid hes
    have HCo := Lib.hid hcon
    have hel : es.length ≤ 64 := by omega
    have hszr : w.heap.size ≤ wr.heap.size := hwb.size
    clear hes hcon hall hwb c_X
    by_cases hlt : k < ds.length
    · obtain ⟨gb, hgb⟩ : ∃ gb, p = some ⟨gb, 0, none⟩ := by
        rcases own_head HO.out with e | ⟨gb, e⟩
        · subst e
          obtain ⟨b, o, e, _⟩ := HO.out.sl.open (by omega)
          cases e
        · exact ⟨gb, e⟩
      subst hgb
      obtain ⟨d, hd⟩ : ∃ d, d = ds[k] := ⟨_, rfl⟩
      have HD := Lib.hid hd
      obtain ⟨r0, r1, r2⟩ := dsl_row (HO.out.sl.keep (by decide) HB.out) k hlt d hd
      simp only [Nat.zero_add] at r0 r1 r2
      have hmem : d ∈ ds := by rw [hd]; simp
      have HDb := Lib.hid (Bts.keep (OwnB.bts (HN.out.bts d hmem)) HB.out)
      have hdl := HLe.out d hmem
      have t1 : (k : Int) < (ds.length : Int) := by omega
      have t2 : (0 : Int) ≤ (k : Int) := by omega
      have HStep := Lib.hid (show (ds.take (k + 1)).map Dv.con = (ds.take k).map Dv.con ++ [d.con] by rw [List.take_succ_eq_append_getElem hlt, List.map_append, ← hd]; rfl)
      clear hd hmem
      go_upto_region 4 with fail
      refine gen_wp (fun w1 => Hid (w1.heap[wr.heap.size]? = some (.cells #[.int .i64 d.fr, .int .i64 d.tt, .slice d.p d.bs.length d.cap] 33)) ∧ Hid (Below wr.heap.size wr w1) ∧ True) ⟨Lib.hid (by first | (simp [World.setCell, Array.getElem?_modify]; done) | (simp [World.setCell, Array.getElem?_modify]; omega) | ((repeat (first | (with_reducible exact heap_new _ _ _ (by first | rfl | (simp; done))) | (with_reducible refine keepa ?_ _) | (simp [World.setCell, Array.getElem?_modify]; done))); done)), Lib.hid (by repeat (first | (with_reducible exact Below.refl _ _) | (with_reducible refine bel_set (by first | omega | (simp; done) | (simp; omega)) ?_) | (with_reducible refine bel_alloc (by first | omega | (simp; done) | (simp; omega)) ?_) | (with_reducible refine bel_drew ?_) | (with_reducible refine bel_drewN ?_ _))), trivial⟩ ?_
      clear r0 r1 r2
      rintro w1 ⟨A4, N, -⟩
      have c_A4 := cell_of_block A4.out
      have f_A4 := frozen_of_block A4.out
      have hz1 := block_lt A4.out
      go_wp2_with fail
      refine (nown_any d _ (HDb.out.keep N.out) hdl).mono ?_
      rintro e w2 ⟨p2, cap2, rfl, OB, B2⟩
      have HA2 := Lib.hid ((HA.out.keep N.out).keep B2.out)
      have HB2 := Lib.hid (chain (chain HB.out N.out) B2.out)
      have HAb2 := Lib.hid (show ∀ e ∈ es, OwnB 5 w.heap.size w2 e from fun e he => Own.keep (Own.keep (HAb.out e he) N.out) B2.out)
      have hz2 : w1.heap.size ≤ w2.heap.size := B2.out.size
      clear c_A4 f_A4 A4 N
      go_wp2_with (at_builtin; refine wpList_applies rfl (.tmp 14) (.tmp 17) 28 rfl w.heap.size 33 (.agg #[.int .i64 0, .int .i64 0, .slice none 0 0]) 3 40 Try.underlying28 (by kernel_rfl) rfl (by decide) (Lib.hid (HA2.out.alloc _)) rfl ⟨w2.heap.size, 0, none⟩ 1 1 rfl [.int .i64 d.fr, .int .i64 d.tt, .slice p2 d.bs.length cap2] rfl (Lib.hid (news_new (heap_new w2 _ _ rfl))) (by simp [Value.oneCell']) (by decide) (by omega) (by omega) (by simp; omega) ?_; intro gq capq w5 O5 M5 L5)
      go_roundw
      case rel =>
        refine ⟨k + 1, some ⟨gq, 0, none⟩, capq, es ++ [⟨d.fr, d.tt, p2, cap2, d.bs⟩], by omega, by go_num, by rw [List.length_append]; rfl, by rw [List.length_append, HEs.out]; rfl, by rw [List.map_append, HCo.out, HStep.out]; rfl, ⟨?_, fun e he => ?_⟩, ?_⟩
        · rw [List.length_append, flat_append]; exact O5.out
        · have hb : ∀ x : Dv, OwnB 5 w.heap.size w2 x → OwnB 5 w.heap.size w5 x := fun x hx => Own.mod (Own.alloc hx _) M5.out (fun b hb e => own_apart HA2.out hx (by decide) b e hb)
          rcases List.mem_append.1 he with he | he
          · exact hb e (HAb2.out e he)
          · simp only [List.mem_singleton] at he
            subst he
            exact hb _ (Own.mono OB.out (by omega))
        · exact M5.out.below (chaina HB2.out _) (by simp; omega) (fun b hb => HA2.out.block b hb)
      case measure => go_light; simp [intOf]; omega
    · have hke : k = ds.length := by omega
      subst hke
      have t1 : decide ((ds.length : Int) < (ds.length : Int)) = false := by simp
      go_wp2_with fail
      go_ret
      refine ⟨q, cq, es, rfl, ?_, Lib.hid ⟨HA.out, HAb.out⟩, HB⟩
      rw [HCo.out, List.take_length, HDs.out]
end Go.Proofs.Ytkgngfjlmkclcaa.K
