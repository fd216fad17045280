/-
  CONTRACT of nightjarref23's Send.
-/
import Derived.Test.YtkgngfjlmkclcaaNetRef
set_option linter.unusedVariables false
set_option linter.unusedSimpArgs false
namespace Go.Proofs.Ytkgngfjlmkclcaa.K
open Go Go.RowKit Nj

theorem qtail_dg {p : Option Addr} {B : Nat} {w : World} {cap : Nat} {ds : List Dv} (h : Own 33 3 B w (.slice p ds.length cap) ds.length (flat Dv.cells ds)) (h1 : 1 < ds.length) :
    ∃ gb, p = some ⟨gb, 0, none⟩ ∧ ∀ W, Below w.heap.size w W → ∀ j u, (flat Dv.cells (ds.drop 1))[j]? = some u → W.cell? ((⟨gb, 3, none⟩ : Addr).add j) = some u := by
  obtain ⟨gb, rfl⟩ : ∃ gb, p = some ⟨gb, 0, none⟩ := by
    rcases own_head h with e | ⟨gb, e⟩
    · subst e
      obtain ⟨b, o, e, _⟩ := h.sl.open (by omega)
      cases e
    · exact ⟨gb, e⟩
  refine ⟨gb, rfl, fun W hb j u hu => ?_⟩
  have hs := (h.sl.keep (by decide) hb).drop 1 (by omega)
  have hcap : ds.length ≤ cap := by obtain ⟨_, _, e, h⟩ := h.shape; cases e; exact h
  rw [if_neg (by omega)] at hs
  have e : (flat Dv.cells ds).drop (1 * 3) = flat Dv.cells (ds.drop 1) := flat_dropN dv_three 1 ds
  rw [e] at hs
  simp only [Option.map_some, Addr.add_lit, Nat.zero_add, Nat.one_mul] at hs
  exact Sl.news (by decide) hs j u hu

set_option maxHeartbeats 4000000 in
theorem qsend_any (B nb : Nat) (S T : Nat → Prop) (n : Nw) (va : Value) (da : List Dv) (w : World) (h : NetQ B nb S T n w) (hB : B ≤ w.heap.size) (hn : n.l.length ≤ 64) (hd : ∀ W, Mod (fun b => S b ∨ b = nb) w W → Dgs W va da) (has : da.length ≤ 1048576)
    (hle : ∀ d ∈ da, d.bs.length ≤ 140737488355328) (hg : 0 ≤ n.g ∧ n.g + da.length ≤ 1099511627776) :
    Calls Try.prog 11 #[.pointer (some ⟨nb, 0, none⟩), va] w fun e w' => e = .returned (.tuple #[]) ∧
      Hid (NetQ B nb (fun b => S b ∨ w.heap.size ≤ b) (fun b => T b ∨ w.heap.size ≤ b) (ntSend n (da.map Dv.con)) w') ∧ Hid (Mod (fun b => S b ∨ b = nb) w w') := by
  have HD := Lib.hid hd
  have HLe := Lib.hid hle
  have HG := Lib.hid hg
  have HNl := Lib.hid hn
  obtain ⟨pa, capa, rfl, hcapa⟩ := dgs_shape (hd w (Mod.refl _ _))
  have HR0 := Lib.hid (netr_mono h (fun b hb => (Or.inl hb : S b ∨ w.heap.size ≤ b)) (fun b hb => (Or.inl hb : T b ∨ w.heap.size ≤ b)))
  have hnb0 := netr_box h
  clear h hd hle hg hn
  go_enter Try.func11, Try.ntmps11
  go_wp2_with fail
  go_loopw [4] (fun i wr => ∃ k : Nat, k ≤ da.length ∧ i = .int .i64 k ∧ NetQ B nb (fun b => S b ∨ w.heap.size ≤ b) (fun b => T b ∨ w.heap.size ≤ b) (ntSend n ((da.take k).map Dv.con)) wr ∧ Mod (fun b => S b ∨ b = nb) w wr) (fun i _ => da.length - (intOf i).toNat)
  case atStart => exact ⟨0, by omega, rfl, HR0.out, Mod.refl _ _⟩
  case round =>
    obtain ⟨k, hk, rfl, hr, hmod⟩ := hrel
    have HM := Lib.hid hmod
    have hszr : w.heap.size ≤ wr.heap.size := hmod.size
    clear hmod
    by_cases hlt : k < da.length
    · obtain ⟨d, hd⟩ : ∃ d, d = da[k] := ⟨_, rfl⟩
      have HDd := Lib.hid hd
      obtain ⟨ba, oa, rfl, _⟩ := (HD.out wr HM.out).1.open (by omega)
      have hdl := HLe.out d (by rw [hd]; simp)
      have t1 : (k : Int) < (da.length : Int) := by omega
      have t2 : (0 : Int) ≤ (k : Int) := by omega
      obtain ⟨m, hm⟩ : ∃ m, m = ntSend n ((da.take k).map Dv.con) := ⟨_, rfl⟩
      have HM1 := Lib.hid (show ntSend n ((da.take (k + 1)).map Dv.con) = ntSend1 m d.con by
        rw [hm, List.take_succ_eq_append_getElem hlt, List.map_append, List.map_cons, List.map_nil, send_snoc, ← hd])
      have HMl := Lib.hid (show m.l.length ≤ 64 ∧ n.g ≤ m.g ∧ m.g ≤ n.g + k by
        have h1 := send_len n HNl.out ((da.take k).map Dv.con)
        have h2 := send_gone n ((da.take k).map Dv.con)
        rw [hm]
        simp only [List.length_map, List.length_take] at h2
        exact ⟨h1, h2.1, by omega⟩)
      rw [← hm] at hr
      obtain ⟨p, cap, ds, hds, hnet, hS, hT⟩ := hr
      have HN := Lib.hid hnet
      have HX := Lib.hid hnet.box
      have HO := Lib.hid hnet.row
      have HDs := Lib.hid hds
      have HS := Lib.hid hS
      have HT := Lib.hid hT
      have hml : ds.length ≤ 64 := by have := HMl.out.1; rw [← hds, List.length_map] at this; exact this
      have hnbl : nb < wr.heap.size := block_lt HX.out
      clear hd hm hds hnet hS hT
      have c_HX := cell_of_block HX.out
      have f_HX := frozen_of_block HX.out
      go_upto_if 16 with fail
      go_cut [] (fun wx => ∃ (p' : Option Addr) (cap' : Nat) (ds' : List Dv) (g' : Int), NetM B nb p' cap' ds' g' wx ∧ ds'.length < 64 ∧ ntSend1 m d.con = ⟨ds'.map Dv.con ++ [d.con], g'⟩ ∧ (∀ e ∈ ds', e ∈ ds) ∧
        Mod (fun b => S b ∨ b = nb) w wx ∧ wr.heap.size ≤ wx.heap.size ∧ (∀ b, (Value.slice p' ds'.length cap').ownBlock = some b → S b ∨ w.heap.size ≤ b))
      case first =>
        by_cases hfull : ds.length = 64
        · obtain ⟨gb, rfl, hnews⟩ := qtail_dg HO.out (by omega)
          have HNe := Lib.hid (hnews (wr.alloc (.cells #[] 33)) (below_alloc _ _))
          have hcap : ds.length ≤ cap := by obtain ⟨_, _, e, h⟩ := HO.out.shape; cases e; exact h
          have z1 : decide ((64 : Int) ≤ (ds.length : Int)) = true := dec_t (by omega)
          have z2 : (1 : Int) ≤ (ds.length : Int) := by omega
          have z5 : (64 : Int) ≤ (ds.length : Int) := by omega
          have z3 : (ds.length : Int) ≤ (cap : Int) := by omega
          have z4 : ¬ cap = 1 := by omega
          have HF := Lib.hid hfull
          have hl1 : ds.length - 1 ≤ 64 := by omega
          have HMl0 := HMl.out
          have HG0 := HG.out
          have hg0 : 0 ≤ m.g ∧ m.g ≤ 1099511627776 := by omega
          obtain ⟨hg1, hg2⟩ := hg0
          clear hfull hnews HMl0 HG0
          have HRw := Lib.hid (show (flat Dv.cells (ds.drop 1)).length = (ds.length - 1) * 3 by rw [flat_length dv_three, List.length_drop])
          have hz0 := netr_box (⟨_, _, ds, HDs.out, HN.out, HS.out, HT.out⟩ : NetQ B nb (fun b => S b ∨ w.heap.size ≤ b) (fun b => T b ∨ w.heap.size ≤ b) m wr)
          go_wp2_with (at_builtin; refine wpList_applies rfl (.tmp 18) (.tmp 23) 28 rfl wr.heap.size 33 (.agg #[.int .i64 0, .int .i64 0, .slice none 0 0]) 3 40 Try.underlying28 (by kernel_rfl) rfl (by decide) (Lib.hid (own_empty _ _ _ _ _ rfl (Nat.le_refl _))) rfl ⟨gb, 3, none⟩ (ds.length - 1) (cap - 1) rfl (flat Dv.cells (ds.drop 1)) HRw.out HNe (dv_cells_one _) (by omega) (by omega) (by omega) (by simp) ?_; intro gq capq w5 O5 M5 L5; simp only [Nat.zero_add, List.nil_append] at O5; have X5 := Lib.hid (M5.out.keep (keepa HX.out _) (fun e => by have e1 : wr.heap.size = nb := (by simpa [Value.ownBlock] using e); omega)); have c_X5 := cell_of_block X5.out; have f_X5 := frozen_of_block X5.out)
          go_meet
          case rel =>
            have hgn : gq ≠ nb := fun e => by subst e; exact own_box O5.out X5.out (by decide) rfl
            have hzz : (wr.alloc (.cells #[] 33)).heap.size = wr.heap.size + 1 := by simp
            have M5' := M5.out.mono (S' := fun b => b = wr.heap.size) (fun b e => by simpa [Value.ownBlock] using e.symm)
            have hfr : w.heap.size ≤ gq := L5.out.elim (fun e => by have e1 : wr.heap.size = gq := (by simpa [Value.ownBlock] using e); omega) (fun e => by omega)
            refine ⟨some ⟨gq, 0, none⟩, capq, ds.drop 1, m.g + 1, ⟨?_, ?_, fun e he => ?_⟩, by rw [List.length_drop, HF.out]; omega, ?_, fun e he => List.mem_of_mem_drop he, ?_, ?_, ?_⟩
            · rw [List.length_drop]; simp [World.setCell, Array.getElem?_modify, X5.out]
            · rw [List.length_drop]
              exact Own.mod (Own.mono O5.out (by omega)) (S := fun b => b = nb) (by repeat (first | (with_reducible exact Mod.refl _ _) | (with_reducible refine Mod.set ?_ _ _ (by first | exact Or.inl rfl | exact Or.inl (Or.inl rfl) | exact Or.inl (Or.inr rfl) | exact Or.inl (Or.inr (Or.inl rfl)) | exact Or.inl (Or.inr (Or.inr rfl)) | (refine Or.inr ?_; first | omega | (simp; done) | (simp; omega)))) | (with_reducible refine Mod.alloc ?_ _) | (with_reducible refine Mod.drew ?_) | (with_reducible refine Mod.drewN ?_ _))) (fun b hb e => by
                have e1 : gq = b := by simpa [Value.ownBlock] using hb
                exact hgn (e1.trans e))
            · have he' := HN.out.bts e (List.mem_of_mem_drop he)
              have h1 := Own.mod (Own.alloc he' (.cells #[] 33)) M5' (fun b hb e => by have := Own.lt he' b hb; have e : b = wr.heap.size := e; omega)
              exact Own.mod h1 (S := fun b => b = nb) (by repeat (first | (with_reducible exact Mod.refl _ _) | (with_reducible refine Mod.set ?_ _ _ (by first | exact Or.inl rfl | exact Or.inl (Or.inl rfl) | exact Or.inl (Or.inr rfl) | exact Or.inl (Or.inr (Or.inl rfl)) | exact Or.inl (Or.inr (Or.inr rfl)) | (refine Or.inr ?_; first | omega | (simp; done) | (simp; omega)))) | (with_reducible refine Mod.alloc ?_ _) | (with_reducible refine Mod.drew ?_) | (with_reducible refine Mod.drewN ?_ _))) (fun b hb e => by subst e; exact own_box h1 X5.out (by decide) hb)
            · unfold ntSend1
              rw [← HDs.out, List.length_map, if_neg (by have := HF.out; omega), List.map_drop]
            · have M := (HM.out.alloc (.cells #[] 33)).then M5' (fun b e => .inr (by have e : b = wr.heap.size := e; omega))
              exact (by repeat (first | (with_reducible exact M) | (with_reducible refine Mod.set ?_ _ _ (by first | exact Or.inl rfl | exact Or.inl (Or.inl rfl) | exact Or.inl (Or.inr rfl) | exact Or.inl (Or.inr (Or.inl rfl)) | exact Or.inl (Or.inr (Or.inr rfl)) | (refine Or.inr ?_; first | omega | (simp; done) | (simp; omega)))) | (with_reducible refine Mod.alloc ?_ _) | (with_reducible refine Mod.drew ?_) | (with_reducible refine Mod.drewN ?_ _)))
            · have := M5.out.size; simp; omega
            · intro b hb
              have e1 : gq = b := by simpa [Value.ownBlock] using hb
              exact .inr (by omega)
        · have z1 : decide ((64 : Int) ≤ (ds.length : Int)) = false := dec_f (by omega)
          have z5 : (ds.length : Int) < 64 := by omega
          have HF := Lib.hid hfull
          clear hfull
          go_wp2_with fail
          go_meet
          case rel =>
            refine ⟨p, cap, ds, m.g, HN.out, by have := HF.out; omega, ?_, fun e he => he, HM.out, Nat.le_refl _, HS.out⟩
            unfold ntSend1
            rw [← HDs.out, List.length_map, if_pos (by have := HF.out; omega)]
      case rest =>
        obtain ⟨p', cap', ds', g', hnet, hl64, hs1, hsub, hmod, hzc, hpb⟩ := hcut
        have HN := Lib.hid hnet
        have HX := Lib.hid hnet.box
        have HO := Lib.hid hnet.row
        have HS1 := Lib.hid hs1
        have HSub := Lib.hid hsub
        have HM := Lib.hid hmod
        have HPb := Lib.hid hpb
        clear hnet hs1 hsub hmod hpb c_HX f_HX
        have c_HX := cell_of_block HX.out
        have f_HX := frozen_of_block HX.out
        have hzw : w.heap.size ≤ wc.heap.size := by omega
        have hnw : nb < wc.heap.size := block_lt HX.out
        have HPn := Lib.hid (show ∀ b, (Value.slice p' ds'.length cap').ownBlock = some b → b ≠ nb from fun b hb e => by subst e; exact own_box HO.out HX.out (by decide) hb)
        obtain ⟨r0, r1, r2⟩ := dsl_row (HD.out wc HM.out).1 k hlt d HDd.out
        have HBd := Lib.hid ((HD.out wc HM.out).2 d (by rw [HDd.out]; simp))
        have HA := Lib.hid (HD.out wc HM.out)
        go_wp2_with fail
        go_region_law
          ((first
            | (refine step_applies rfl (.tmp 39) (.tmp 45) 28 rfl B 33 (.agg #[.int .i64 0, .int .i64 0, .slice none 0 0]) 3 40 Try.underlying28 (by kernel_rfl) rfl (by decide) (Lib.hid ((Own.keep (w := wc.drew) HO.out.drew B2.out).alloc _)) (by simp [Act.eval, Act.put]) ⟨w2.heap.size, 0, none⟩ 1 1 (by simp [Act.eval, Act.put]) [.int .i64 d.fr, .int .i64 d.tt, .slice p2 d.bs.length cap2] rfl (Lib.hid (news_new (w := w2.alloc (.cells #[.int .i64 d.fr, .int .i64 d.tt, .slice p2 d.bs.length cap2] 33)) (heap_new w2 _ _ rfl))) (by simp [Value.oneCell']) (by decide) (by omega) (by omega) (by simp; omega) ?_; intro gq capq w5 O5 M5 L5; have X5 := Lib.hid (M5.out.keep (keepa HX2.out _) (fun e => HPn.out nb e rfl)); have c_X5 := cell_of_block X5.out; have f_X5 := frozen_of_block X5.out)
            | (go_simp; go_at_call 26; refine (qcopied_any d _ (show Bts wc.drew d from HBd.out) hdl).mono ?_; rintro e w2 ⟨p2, cap2, rfl, OB, B2⟩; have HX2 := Lib.hid (keepb (w := wc.drew) HX.out B2.out); have c_X2 := cell_of_block HX2.out; have f_X2 := frozen_of_block HX2.out; have hw2 : wc.heap.size ≤ w2.heap.size := B2.out.size; have hnw2 : nb < w2.heap.size := by omega)))
        all_goals
          have hz2 : wc.heap.size ≤ w2.heap.size := B2.out.size
          have hzz : (w2.alloc (.cells #[.int .i64 d.fr, .int .i64 d.tt, .slice p2 d.bs.length cap2] 33)).heap.size = w2.heap.size + 1 := by simp
          have HLq := Lib.hid (show S gq ∨ w.heap.size ≤ gq from L5.out.elim (fun e => HPb.out _ e) (fun e => .inr (by omega)))
          have hgn : gq ≠ nb := fun e => by subst e; exact own_box O5.out X5.out (by decide) rfl
          have HO2 := Lib.hid (Own.keep (w := wc.drew) HO.out.drew B2.out)
          have HBt := Lib.hid (show ∀ e : Dv, Own 5 1 B w2 e.sl e.bs.length (u8s e.bs) → Own 5 1 B (w5.setCell ⟨nb, 0, none⟩ (.slice (some ⟨gq, 0, none⟩) (ds'.length + 1) capq)) e.sl e.bs.length (u8s e.bs) from fun e he => by
            have h1 := Own.mod (Own.alloc he (.cells #[.int .i64 d.fr, .int .i64 d.tt, .slice p2 d.bs.length cap2] 33)) M5.out (fun b hb e => own_apart HO2.out he (by decide) b e hb)
            exact Own.mod h1 (S := fun b => b = nb) (by repeat (first | (with_reducible exact Mod.refl _ _) | (with_reducible refine Mod.set ?_ _ _ (by first | exact Or.inl rfl | exact Or.inl (Or.inl rfl) | exact Or.inl (Or.inr rfl) | exact Or.inl (Or.inr (Or.inl rfl)) | exact Or.inl (Or.inr (Or.inr rfl)) | (refine Or.inr ?_; first | omega | (simp; done) | (simp; omega)))) | (with_reducible refine Mod.alloc ?_ _) | (with_reducible refine Mod.drew ?_) | (with_reducible refine Mod.drewN ?_ _))) (fun b hb e => by subst e; exact own_box h1 X5.out (by decide) hb))
          have HNN := Lib.hid (show NetM B nb (some ⟨gq, 0, none⟩) capq (ds' ++ [⟨d.fr, d.tt, p2, cap2, d.bs⟩]) g' (w5.setCell ⟨nb, 0, none⟩ (.slice (some ⟨gq, 0, none⟩) (ds'.length + 1) capq)) from by
            refine ⟨?_, ?_, fun e he => ?_⟩
            · rw [List.length_append]
              exact heap_set_same X5.out 0 _
            · rw [List.length_append, flat_append]
              exact Own.mod O5.out (S := fun b => b = nb) (by repeat (first | (with_reducible exact Mod.refl _ _) | (with_reducible refine Mod.set ?_ _ _ (by first | exact Or.inl rfl | exact Or.inl (Or.inl rfl) | exact Or.inl (Or.inr rfl) | exact Or.inl (Or.inr (Or.inl rfl)) | exact Or.inl (Or.inr (Or.inr rfl)) | (refine Or.inr ?_; first | omega | (simp; done) | (simp; omega)))) | (with_reducible refine Mod.alloc ?_ _) | (with_reducible refine Mod.drew ?_) | (with_reducible refine Mod.drewN ?_ _))) (fun b hb e => by
                have e1 : gq = b := by simpa [Value.ownBlock] using hb
                exact hgn (e1.trans e))
            · rcases List.mem_append.1 he with he | he
              · exact HBt.out e (Own.keep (w := wc.drew) (Own.drew (HN.out.bts e he)) B2.out)
              · simp only [List.mem_singleton] at he
                subst he
                exact HBt.out ⟨d.fr, d.tt, p2, cap2, d.bs⟩ (Own.mono OB.out (by show B ≤ wc.heap.size; omega)))
          have HMM := Lib.hid (((Mod.chain (w' := wc.drew) HM.out.drew B2.out).alloc (.cells #[.int .i64 d.fr, .int .i64 d.tt, .slice p2 d.bs.length cap2] 33)).then M5.out (fun b e => (HPb.out b e).elim (fun h => .inl (.inl h)) .inr) |>.set ⟨nb, 0, none⟩ (.slice (some ⟨gq, 0, none⟩) (ds'.length + 1) capq) (.inl (.inr rfl)))
          have HOB := Lib.hid (show ∀ b, (Dv.mk d.fr d.tt p2 cap2 d.bs).sl.ownBlock = some b → w.heap.size ≤ b from fun b hb => by have := Own.block OB.out b hb; have h : wc.heap.size ≤ b := this; omega)
          clear hzz hgn
          go_wp2_with fail
          go_roundw
          case rel =>
            refine ⟨k + 1, by omega, by go_num, ?_, HMM.out⟩
            rw [HM1.out, HS1.out]
            refine ⟨_, _, _, by simp [Dv.con], HNN.out, fun b hb => ?_, fun e he b hb => ?_⟩
            · have e1 : gq = b := by simpa [Value.ownBlock] using hb
              rw [← e1]; exact HLq.out
            · rcases List.mem_append.1 he with he | he
              · exact HT.out e (HSub.out e he) b hb
              · simp only [List.mem_singleton] at he
                subst he
                exact .inr (HOB.out b hb)
          case measure => go_light; simp [intOf]; omega
    · have hke : k = da.length := by omega
      subst hke
      have t1 : decide ((da.length : Int) < (da.length : Int)) = false := by simp
      go_wp2_with fail
      go_end0
      refine ⟨rfl, Lib.hid ?_, HM⟩
      rw [List.take_length] at hr
      exact hr
end Go.Proofs.Ytkgngfjlmkclcaa.K
