/-
  CONTRACT of net's Send.
-/
import Derived.Test.YtkgngfjlmkclcaaNet3
import Derived.Deep.AppendLies
import Derived.Deep.DeepCutAuto
import Derived.Deep.Light
set_option linter.unusedVariables false
set_option linter.unusedSimpArgs false
namespace Nj
open Go Go.RowKit
theorem mod_grown {w w' : World} {row : Option Nat} (h : w.grownBy w' row) : Mod (fun b => row = some b) w w' := ⟨h.os, h.tape, h.output, h.size, fun k hk hn => h.block k hk (fun e => hn e.symm)⟩
theorem Mod.then {S U : Nat → Prop} {w w' w'' : World} (h : Mod S w w') (h' : Mod U w' w'') (hu : ∀ k, U k → S k ∨ w.heap.size ≤ k) : Mod S w w'' :=
  ⟨h'.os.trans h.os, h'.tape.trans h.tape, h'.output.trans h.output, Nat.le_trans h.size h'.size, fun k hk hs => (h'.block k (Nat.lt_of_lt_of_le hk h.size) (fun hh => by rcases hu k hh with h | h; exact hs h; omega)).trans (h.block k hk hs)⟩
/-- append of something behind a slice of the call's own, at a step of a region that draws its order: where the new slice lies, and what has turned -/
theorem step_applies {P : Program} {w : World} {ops : Array Oper} {o : Oper} {a : Act} {K : Act → World → Prop} {Q : Exit → Act → World → Prop} {F : Prop} (hgd : o.guard = none) (s x : Operand) (t : TypeId)
    (ho : o.op = .call { callee := .builtin .append, args := #[s, x], argTypes := #[t, t] })
    (base : Nat) (e : TypeId) (z : Value) (sz bytes : Nat) (ht : P.underlying t = some (.slice e)) (hi : (P.info? e).map (fun i => (i.zero, i.size, i.bytes)) = some (some z, sz, bytes)) (hzs : z.cells.size = sz) (hsz : 0 < sz)
    {v : Value} {n : Nat} {cells : List Value} (HO : Hid (Own e sz base w v n cells)) (hs : a.eval s = v)
    (ad : Addr) (m c : Nat) (hx : a.eval x = .slice (some ad) m c) (news : List Value) (hl : news.length = m * sz) (HC : Hid (∀ j u, news[j]? = some u → w.cell? (ad.add j) = some u)) (h1 : ∀ u ∈ news, u.oneCell' = true) (hm : 0 < m)
    (hbytes : (n + m) * bytes ≤ 140737488355328) (h63 : n + m ≤ 9223372036854775807) (hbase : base ≤ w.heap.size)
    (h : ∀ g cap w', Hid (Own e sz base w' (.slice (some ⟨g, 0, none⟩) (n + m) cap) (n + m) (cells ++ news)) → Hid (Mod (fun b => v.ownBlock = some b) w w') → Hid (v.ownBlock = some g ∨ g = w.heap.size) → K (a.put o.dst (.slice (some ⟨g, 0, none⟩) (n + m) cap)) w') :
    if Region.wanted o (yielded ops a.tmps) = true then Oper.wp P o a w K Q else F := by
  obtain ⟨i, hi, hz, hsize, hby⟩ := info_parts hi
  exact step_append_lies w hgd s x t ho base e i _ sz bytes ht hi hz hsize hby hzs hsz v n cells hs HO.out ad m c news hx hl HC.out h1 hm (by unfold maxLen; omega) hbytes hbase w.heap.size rfl fun g cap w' h2 h3 h4 _ => h g cap w' (Lib.hid h2) (Lib.hid (mod_grown h3)) (Lib.hid h4)
theorem wpList_applies {P : Program} {w : World} {ops : Array Oper} {rest : List Oper} {o : Oper} {a : Act} {Q : Exit → Act → World → Prop} (hgd : o.guard = none) (s x : Operand) (t : TypeId)
    (ho : o.op = .call { callee := .builtin .append, args := #[s, x], argTypes := #[t, t] })
    (base : Nat) (e : TypeId) (z : Value) (sz bytes : Nat) (ht : P.underlying t = some (.slice e)) (hi : (P.info? e).map (fun i => (i.zero, i.size, i.bytes)) = some (some z, sz, bytes)) (hzs : z.cells.size = sz) (hsz : 0 < sz)
    {v : Value} {n : Nat} {cells : List Value} (HO : Hid (Own e sz base w v n cells)) (hs : a.eval s = v)
    (ad : Addr) (m c : Nat) (hx : a.eval x = .slice (some ad) m c) (news : List Value) (hl : news.length = m * sz) (HC : Hid (∀ j u, news[j]? = some u → w.cell? (ad.add j) = some u)) (h1 : ∀ u ∈ news, u.oneCell' = true) (hm : 0 < m)
    (hbytes : (n + m) * bytes ≤ 140737488355328) (h63 : n + m ≤ 9223372036854775807) (hbase : base ≤ w.heap.size)
    (h : ∀ g cap w', Hid (Own e sz base w' (.slice (some ⟨g, 0, none⟩) (n + m) cap) (n + m) (cells ++ news)) → Hid (Mod (fun b => v.ownBlock = some b) w w') → Hid (v.ownBlock = some g ∨ g = w.heap.size) → wpList P ops Q rest (a.put o.dst (.slice (some ⟨g, 0, none⟩) (n + m) cap)) w') :
    wpList P ops Q (o :: rest) a w := by
  obtain ⟨i, hi, hz, hsize, hby⟩ := info_parts hi
  exact wpList_append_lies w hgd s x t ho base e i _ sz bytes ht hi hz hsize hby hzs hsz v n cells hs HO.out ad m c news hx hl HC.out h1 hm (by unfold maxLen; omega) hbytes hbase w.heap.size rfl fun g cap w' h2 h3 h4 _ => h g cap w' (Lib.hid h2) (Lib.hid (mod_grown h3)) (Lib.hid h4)
end Nj
namespace Go.Proofs.Ytkgngfjlmkclcaa.K
open Go Go.RowKit Nj

/-- a net that holds n: its row lies in a block of S, its bytes in blocks of T -/
def NetT (Tn : TypeId) (B nb : Nat) (S T : Nat → Prop) (n : Nw) (w : World) : Prop :=
  ∃ (p : Option Addr) (cap : Nat) (ds : List Dv), ds.map Dv.con = n.l ∧ NetS Tn 33 5 B nb p cap ds n.g w ∧ (∀ b, (Value.slice p ds.length cap).ownBlock = some b → S b) ∧ (∀ e ∈ ds, ∀ b, e.sl.ownBlock = some b → T b)

/-- the program's, the document's -/
abbrev NetR (B nb : Nat) (S T : Nat → Prop) (n : Nw) (w : World) : Prop := NetT 49 B nb S T n w
abbrev NetQ (B nb : Nat) (S T : Nat → Prop) (n : Nw) (w : World) : Prop := NetT 43 B nb S T n w

theorem netr_keep {Tn : TypeId} {B nb : Nat} {S T : Nat → Prop} {n : Nw} {w w' : World} (h : NetT Tn B nb S T n w) (hb : Below w.heap.size w w') : NetT Tn B nb S T n w' := by
  obtain ⟨p, cap, ds, h1, h2, h3, h4⟩ := h
  exact ⟨p, cap, ds, h1, h2.keep hb, h3, h4⟩
theorem netr_mod {Tn : TypeId} {B nb : Nat} {S T U : Nat → Prop} {n : Nw} {w w' : World} (h : NetT Tn B nb S T n w) (hm : Mod U w w') (h1 : ¬ U nb) (h2 : ∀ b, S b → ¬ U b) (h3 : ∀ b, T b → ¬ U b) : NetT Tn B nb S T n w' := by
  obtain ⟨p, cap, ds, e1, e2, e3, e4⟩ := h
  exact ⟨p, cap, ds, e1, e2.mod hm h1 (fun b hb => h2 b (e3 b hb)) (fun d hd b hb => h3 b (e4 d hd b hb)), e3, e4⟩
theorem netr_lt {Tn : TypeId} {B nb : Nat} {S T : Nat → Prop} {n : Nw} {w : World} (h : NetT Tn B nb S T n w) : NetT Tn B nb (fun b => S b ∧ b < w.heap.size) (fun b => T b ∧ b < w.heap.size) n w := by
  obtain ⟨p, cap, ds, h1, h2, h3, h4⟩ := h
  exact ⟨p, cap, ds, h1, h2, fun b hb => ⟨h3 b hb, Own.lt h2.row b hb⟩, fun d hd b hb => ⟨h4 d hd b hb, Own.lt (h2.bts d hd) b hb⟩⟩
theorem netr_mono {Tn : TypeId} {B nb : Nat} {S T S' T' : Nat → Prop} {n : Nw} {w : World} (h : NetT Tn B nb S T n w) (hs : ∀ b, S b → S' b) (ht : ∀ b, T b → T' b) : NetT Tn B nb S' T' n w := by
  obtain ⟨p, cap, ds, h1, h2, h3, h4⟩ := h
  exact ⟨p, cap, ds, h1, h2, fun b hb => hs b (h3 b hb), fun d hd b hb => ht b (h4 d hd b hb)⟩
theorem netr_box {Tn : TypeId} {B nb : Nat} {S T : Nat → Prop} {n : Nw} {w : World} (h : NetT Tn B nb S T n w) : nb < w.heap.size := by
  obtain ⟨p, cap, ds, h1, h2, h3, h4⟩ := h
  exact block_lt h2.box

set_option maxHeartbeats 4000000 in
theorem nsend_any (B nb : Nat) (S T : Nat → Prop) (n : Nw) (va : Value) (da : List Dv) (w : World) (h : NetR B nb S T n w) (hB : B ≤ w.heap.size) (hn : n.l.length ≤ 64) (hd : ∀ W, Mod (fun b => S b ∨ b = nb) w W → Dgs W va da) (has : da.length ≤ 1048576)
    (hle : ∀ d ∈ da, d.bs.length ≤ 140737488355328) (hg : 0 ≤ n.g ∧ n.g + da.length ≤ 1099511627776) :
    Calls Try.prog 10 #[.pointer (some ⟨nb, 0, none⟩), va] w fun e w' => e = .returned (.tuple #[]) ∧
      Hid (NetR B nb (fun b => S b ∨ w.heap.size ≤ b) (fun b => T b ∨ w.heap.size ≤ b) (ntSend n (da.map Dv.con)) w') ∧ Hid (Mod (fun b => S b ∨ b = nb) w w') := by
  have HD := Lib.hid hd
  have HLe := Lib.hid hle
  have HG := Lib.hid hg
  have HNl := Lib.hid hn
  obtain ⟨pa, capa, rfl, hcapa⟩ := dgs_shape (hd w (Mod.refl _ _))
  have HR0 := Lib.hid (netr_mono h (fun b hb => (Or.inl hb : S b ∨ w.heap.size ≤ b)) (fun b hb => (Or.inl hb : T b ∨ w.heap.size ≤ b)))
  have hnb0 := netr_box h
  clear h hd hle hg hn
  go_enter Try.func10, Try.ntmps10
  go_wp2_with fail
  go_loopw [8] (fun i wr => ∃ k : Nat, k ≤ da.length ∧ i = .int .i64 k ∧ NetR B nb (fun b => S b ∨ w.heap.size ≤ b) (fun b => T b ∨ w.heap.size ≤ b) (ntSend n ((da.take k).map Dv.con)) wr ∧ Mod (fun b => S b ∨ b = nb) w wr) (fun i _ => da.length - (intOf i).toNat)
  case atStart => exact ⟨0, by omega, rfl, HR0.out, Mod.refl _ _⟩
  case round =>
    obtain ⟨k, hk, rfl, hr, hmod⟩ := hrel
    have HM := Lib.hid hmod
    have hszr : w.heap.size ≤ wr.heap.size := hmod.size
    clear hmod
    by_cases hlt : k < da.length
    · obtain ⟨d, hd⟩ : ∃ d, d = da[k] := ⟨_, rfl⟩
      have HDd := Lib.hid hd
      have HA := Lib.hid (HD.out wr HM.out)
      obtain ⟨ba, oa, rfl, _⟩ := HA.out.1.open (by omega)
      obtain ⟨r0, r1, r2⟩ := dsl_row HA.out.1 k hlt d hd
      have HBd := Lib.hid (HA.out.2 d (by rw [hd]; simp))
      have hdl := HLe.out d (by rw [hd]; simp)
      have t1 : (k : Int) < (da.length : Int) := by omega
      have t2 : (0 : Int) ≤ (k : Int) := by omega
      obtain ⟨m, hm⟩ : ∃ m, m = ntSend n ((da.take k).map Dv.con) := ⟨_, rfl⟩
      have HM1 := Lib.hid (show ntSend n ((da.take (k + 1)).map Dv.con) = ntSend1 m d.con by
        rw [hm, List.take_succ_eq_append_getElem hlt, List.map_append, List.map_cons, List.map_nil, send_snoc, ← hd])
      have HMl := Lib.hid (show m.l.length ≤ 64 ∧ n.g ≤ m.g ∧ m.g ≤ n.g + k by
        have h1 := send_len n HNl.out ((da.take k).map Dv.con)
        have h2 := send_gone n ((da.take k).map Dv.con)
        rw [hm]
        simp only [List.length_map, List.length_take] at h2
        exact ⟨h1, h2.1, by omega⟩)
      rw [← hm] at hr
      obtain ⟨p, cap, ds, hds, hnet, hS, hT⟩ := hr
      have HN := Lib.hid hnet
      have HX := Lib.hid hnet.box
      have HDs := Lib.hid hds
      have HS := Lib.hid hS
      have HT := Lib.hid hT
      have hml : ds.length ≤ 64 := by have := HMl.out.1; rw [← hds, List.length_map] at this; exact this
      clear hd hm hds hnet hS hT
      go_upto_region 3 with fail
      refine gen_wp (fun w1 => Hid (w1.heap[wr.heap.size]? = some (.cells #[.int .i64 d.fr, .int .i64 d.tt, .slice d.p d.bs.length d.cap] 33)) ∧ Hid (Below wr.heap.size wr w1) ∧ True) ⟨Lib.hid (by first | (simp [World.setCell, Array.getElem?_modify, HX]; done) | (simp [World.setCell, Array.getElem?_modify, HX]; omega) | ((repeat (first | (with_reducible exact heap_new _ _ _ (by first | rfl | (simp; done))) | (with_reducible refine keepa ?_ _) | (simp [World.setCell, Array.getElem?_modify, HX]; done))); done)), Lib.hid (by repeat (first | (with_reducible exact Below.refl _ _) | (with_reducible refine bel_set (by first | omega | (simp; done) | (simp; omega)) ?_) | (with_reducible refine bel_alloc (by first | omega | (simp; done) | (simp; omega)) ?_) | (with_reducible refine bel_drew ?_) | (with_reducible refine bel_drewN ?_ _))), trivial⟩ ?_
      clear r0 r1 r2
      rintro w1 ⟨A5, N, -⟩
      have c_A5 := cell_of_block A5.out
      have f_A5 := frozen_of_block A5.out
      replace HX := Lib.hid (keepb HX.out N.out)
      replace c_HX := cell_of_block HX.out
      replace f_HX := frozen_of_block HX.out
      have HN1 := Lib.hid (HN.out.keep N.out)
      have hz1 := block_lt A5.out
      go_wp2_with fail
      refine (nown_any d _ (HBd.out.keep N.out) hdl).mono ?_
      rintro e w2 ⟨p2, cap2, rfl, OB, B2⟩
      replace HX := Lib.hid (keepb HX.out B2.out)
      replace c_HX := cell_of_block HX.out
      replace f_HX := frozen_of_block HX.out
      replace A5 := Lib.hid (keepb A5.out B2.out)
      replace c_A5 := cell_of_block A5.out
      replace f_A5 := frozen_of_block A5.out
      have HN2 := Lib.hid (HN1.out.keep B2.out)
      have hz2 : w1.heap.size ≤ w2.heap.size := B2.out.size
      have hnbl : nb < wr.heap.size := block_lt HN.out.box
      have hne : nb ≠ wr.heap.size := by omega
      go_upto_region 4 with fail
      refine gen_wp (fun w3 => Hid (w3.heap[wr.heap.size]? = some (.cells #[.int .i64 d.fr, .int .i64 d.tt, .slice p2 d.bs.length cap2] 33)) ∧ Hid (w3.heap[nb]? = some (.cells #[.slice p ds.length cap, .int .i64 m.g] 49)) ∧ Hid (Mod (fun b => b = wr.heap.size) w2 w3) ∧ True) ⟨Lib.hid (by first | (simp [World.setCell, Array.getElem?_modify, A5.out, HX.out, hne, hne.symm]; done) | (simp [World.setCell, Array.getElem?_modify, A5.out, HX.out, hne, hne.symm]; omega) | ((repeat (first | (with_reducible exact A5.out) | (with_reducible exact HX.out) | (with_reducible exact heap_new _ _ _ (by first | rfl | (simp; done))) | (with_reducible refine keepa ?_ _) | (simp [World.setCell, Array.getElem?_modify, A5.out, HX.out, hne, hne.symm]; done))); done)), Lib.hid (by first | (simp [World.setCell, Array.getElem?_modify, A5.out, HX.out, hne, hne.symm]; done) | (simp [World.setCell, Array.getElem?_modify, A5.out, HX.out, hne, hne.symm]; omega) | ((repeat (first | (with_reducible exact A5.out) | (with_reducible exact HX.out) | (with_reducible exact heap_new _ _ _ (by first | rfl | (simp; done))) | (with_reducible refine keepa ?_ _) | (simp [World.setCell, Array.getElem?_modify, A5.out, HX.out, hne, hne.symm]; done))); done)), Lib.hid (by exact (by repeat (first | (with_reducible exact Mod.refl _ _) | (with_reducible refine Mod.set ?_ _ _ (by first | exact Or.inl rfl | exact Or.inl (Or.inl rfl) | exact Or.inl (Or.inr rfl) | exact Or.inl (Or.inr (Or.inl rfl)) | exact Or.inl (Or.inr (Or.inr rfl)) | (refine Or.inr ?_; first | omega | (simp; done) | (simp; omega)))) | (with_reducible refine Mod.alloc ?_ _) | (with_reducible refine Mod.drew ?_) | (with_reducible refine Mod.drewN ?_ _)))), trivial⟩ ?_
      clear c_A5 f_A5 c_HX f_HX
      rintro w3 ⟨A5, HX, M3, -⟩
      have c_A5 := cell_of_block A5.out
      have f_A5 := frozen_of_block A5.out
      have c_HX := cell_of_block HX.out
      have f_HX := frozen_of_block HX.out
      have hpl : ∀ b, (Value.slice p ds.length cap).ownBlock = some b → b < wr.heap.size := Own.lt HN.out.row
      have hdl' : ∀ e ∈ ds, ∀ b, e.sl.ownBlock = some b → b < wr.heap.size := fun e he => Own.lt (HN.out.bts e he)
      have HPl := Lib.hid hpl
      have HN3 := Lib.hid (HN2.out.mod M3.out (fun e => hne e) (fun b hb e => by have := hpl b hb; have e : b = wr.heap.size := e; omega) (fun x hx b hb e => by have := hdl' x hx b hb; have e : b = wr.heap.size := e; omega))
      have OB3 := Lib.hid (show OwnB 5 w1.heap.size w3 ⟨d.fr, d.tt, p2, cap2, d.bs⟩ from Own.mod OB.out M3.out (fun b hb e => by have := Own.block OB.out b hb; have e : b = wr.heap.size := e; omega))
      have HM3 := Lib.hid (((HM.out.chain N.out).chain B2.out).then M3.out (fun b e => .inr (by have e : b = wr.heap.size := e; omega)))
      have hz3 : w2.heap.size ≤ w3.heap.size := M3.out.size
      clear hpl hdl' OB B2 N M3 HN1 HN2
      go_upto_if 19 with fail
      go_cut [] (fun wx => ∃ (ds' : List Dv) (g' : Int), NetN B nb p cap ds' g' wx ∧ ds'.length < 64 ∧ ntSend1 m d.con = ⟨ds'.map Dv.con ++ [d.con], g'⟩ ∧ (∀ e ∈ ds', e ∈ ds) ∧ wx.heap[wr.heap.size]? = some (.cells #[.int .i64 d.fr, .int .i64 d.tt, .slice p2 d.bs.length cap2] 33) ∧
        OwnB 5 w1.heap.size wx ⟨d.fr, d.tt, p2, cap2, d.bs⟩ ∧ Mod (fun b => S b ∨ b = nb) w wx ∧ w3.heap.size ≤ wx.heap.size ∧ (∀ b, (Value.slice p ds'.length cap).ownBlock = some b → b < wr.heap.size ∧ (S b ∨ w.heap.size ≤ b)))
      case first =>
        by_cases hfull : ds.length = 64
        · have z1 : ((ds.length : Int) == 64) = true := by simp; omega
          have HF := Lib.hid hfull
          have HG0 := HG.out
          have HMl0 := HMl.out
          have hg0 : 0 ≤ m.g ∧ m.g ≤ 1099511627776 := by omega
          clear hfull HG0 HMl0
          go_wp2_with fail
          refine (nlose_some B nb p cap ds m.g 0 _ HN3.out (by have := HF.out; omega) (by omega) ⟨by omega, by omega⟩ hg0).mono ?_
          rintro e w4 ⟨i, hi, rfl, N4, M4⟩
          have hi0 : i = 0 := by rw [hi]; unfold ntPlace; simp
          subst hi0
          have A54 := Lib.hid (M4.out.keep A5.out (fun e => by
            rcases e with e | e
            · have := HPl.out _ e; omega
            · omega))
          have OB4 := Lib.hid (show OwnB 5 w1.heap.size w4 ⟨d.fr, d.tt, p2, cap2, d.bs⟩ from Own.mod OB3.out M4.out (fun b hb e => by
            rcases e with e | e
            · exact own_apart HN3.out.row OB3.out (by decide) b e hb
            · subst e; exact own_box OB3.out HN3.out.box (by decide) hb))
          have HM4 := Lib.hid (HM3.out.then M4.out (fun b e => by
            rcases e with e | e
            · rcases HS.out b e with h | h
              · exact .inl (.inl h)
              · exact .inr h
            · exact .inl (.inr e)))
          have hz4 : w3.heap.size ≤ w4.heap.size := M4.out.size
          clear hi
          go_wp2_with fail
          go_meet
          case rel =>
            refine ⟨ds.eraseIdx 0, m.g + 1, N4.out, ?_, ?_, fun e he => List.mem_of_mem_eraseIdx he, A54.out, OB4.out, HM4.out, hz4, ?_⟩
            · have := HF.out; rw [List.length_eraseIdx]; split <;> omega
            · unfold ntSend1
              rw [← HDs.out, List.length_map, if_neg (by have := HF.out; omega)]
              simp only [List.eraseIdx_zero, List.map_tail, List.drop_one]
            · intro b hb
              have hb' : (Value.slice p ds.length cap).ownBlock = some b := by
                cases p with
                | none => cases hb
                | some a => exact hb
              exact ⟨HPl.out b hb', HS.out b hb'⟩
        · have z1 : ((ds.length : Int) == 64) = false := by rw [beq_eq_false_iff_ne]; omega
          have HF := Lib.hid hfull
          clear hfull
          go_wp2_with fail
          go_meet
          case rel =>
            refine ⟨ds, m.g, HN3.out, by have := HF.out; omega, ?_, fun e he => he, A5.out, OB3.out, HM3.out, Nat.le_refl _, fun b hb => ⟨HPl.out b hb, HS.out b hb⟩⟩
            unfold ntSend1
            rw [← HDs.out, List.length_map, if_pos (by have := HF.out; omega)]
      case rest =>
        obtain ⟨ds', g', hnet, hl64, hs1, hsub, ha5, hob, hmod, hzc, hpb⟩ := hcut
        have HN := Lib.hid hnet
        have HX := Lib.hid hnet.box
        have HO := Lib.hid hnet.row
        have HS1 := Lib.hid hs1
        have HSub := Lib.hid hsub
        have A5 := Lib.hid ha5
        have OB := Lib.hid hob
        have HM := Lib.hid hmod
        have HPb := Lib.hid hpb
        clear hnet hs1 hsub ha5 hob hmod hpb c_A5 f_A5 c_HX f_HX
        have c_A5 := cell_of_block A5.out
        have f_A5 := frozen_of_block A5.out
        have c_HX := cell_of_block HX.out
        have f_HX := frozen_of_block HX.out
        have hzw : w.heap.size ≤ wc.heap.size := by omega
        have hnw : nb < wc.heap.size := block_lt HX.out
        have HPn := Lib.hid (show ∀ b, (Value.slice p ds'.length cap).ownBlock = some b → b ≠ nb from fun b hb e => by subst e; exact own_box HO.out HX.out (by decide) hb)
        go_wp2_with fail
        go_region_law
          ((refine step_applies rfl (.tmp 26) (.tmp 28) 28 rfl B 33 (.agg #[.int .i64 0, .int .i64 0, .slice none 0 0]) 3 40 Try.underlying28 (by kernel_rfl) rfl (by decide) (Lib.hid (HO.out.alloc _)) (by simp [Act.eval, Act.put]) ⟨wc.heap.size, 0, none⟩ 1 1 (by simp [Act.eval, Act.put]) [.int .i64 d.fr, .int .i64 d.tt, .slice p2 d.bs.length cap2] rfl (Lib.hid (news_new (w := (wc.alloc (.cells #[.int .i64 d.fr, .int .i64 d.tt, .slice p2 d.bs.length cap2] 33)).drew) (heap_new wc _ _ rfl))) (by simp [Value.oneCell']) (by decide) (by omega) (by omega) (by simp; omega) ?_; intro gq capq w5 O5 M5 L5; have X5 := Lib.hid (M5.out.keep (show (wc.alloc (.cells #[.int .i64 d.fr, .int .i64 d.tt, .slice p2 d.bs.length cap2] 33)).drew.heap[nb]? = _ from keepa HX.out _) (fun e => HPn.out nb e rfl)); have A55 := Lib.hid (M5.out.keep (show (wc.alloc (.cells #[.int .i64 d.fr, .int .i64 d.tt, .slice p2 d.bs.length cap2] 33)).drew.heap[wr.heap.size]? = _ from keepa A5.out _) (fun e => by have := (HPb.out _ e).1; omega)); have c_X5 := cell_of_block X5.out; have f_X5 := frozen_of_block X5.out; have c_A55 := cell_of_block A55.out))
        all_goals
          have hzz : (wc.alloc (.cells #[.int .i64 d.fr, .int .i64 d.tt, .slice p2 d.bs.length cap2] 33)).drew.heap.size = wc.heap.size + 1 := by simp
          have HLq := Lib.hid (show S gq ∨ w.heap.size ≤ gq from L5.out.elim (fun e => (HPb.out _ e).2) (fun e => .inr (by omega)))
          have hgn : gq ≠ nb := fun e => by subst e; exact own_box O5.out X5.out (by decide) rfl
          have HBt := Lib.hid (show ∀ e : Dv, Own 5 1 B wc e.sl e.bs.length (u8s e.bs) → Own 5 1 B (w5.setCell ⟨nb, 0, none⟩ (.slice (some ⟨gq, 0, none⟩) (ds'.length + 1) capq)) e.sl e.bs.length (u8s e.bs) from fun e he => by
            have h1 := Own.mod (Own.alloc he (.cells #[.int .i64 d.fr, .int .i64 d.tt, .slice p2 d.bs.length cap2] 33)).drew M5.out (fun b hb e => own_apart HO.out he (by decide) b e hb)
            exact Own.mod h1 (S := fun b => b = nb) (by repeat (first | (with_reducible exact Mod.refl _ _) | (with_reducible refine Mod.set ?_ _ _ (by first | exact Or.inl rfl | exact Or.inl (Or.inl rfl) | exact Or.inl (Or.inr rfl) | exact Or.inl (Or.inr (Or.inl rfl)) | exact Or.inl (Or.inr (Or.inr rfl)) | (refine Or.inr ?_; first | omega | (simp; done) | (simp; omega)))) | (with_reducible refine Mod.alloc ?_ _) | (with_reducible refine Mod.drew ?_) | (with_reducible refine Mod.drewN ?_ _))) (fun b hb e => by subst e; exact own_box h1 X5.out (by decide) hb))
          have HNN := Lib.hid (show NetN B nb (some ⟨gq, 0, none⟩) capq (ds' ++ [⟨d.fr, d.tt, p2, cap2, d.bs⟩]) g' (w5.setCell ⟨nb, 0, none⟩ (.slice (some ⟨gq, 0, none⟩) (ds'.length + 1) capq)) from by
            refine ⟨?_, ?_, fun e he => ?_⟩
            · rw [List.length_append]
              exact heap_set_same X5.out 0 _
            · rw [List.length_append, flat_append]
              exact Own.mod O5.out (S := fun b => b = nb) (by repeat (first | (with_reducible exact Mod.refl _ _) | (with_reducible refine Mod.set ?_ _ _ (by first | exact Or.inl rfl | exact Or.inl (Or.inl rfl) | exact Or.inl (Or.inr rfl) | exact Or.inl (Or.inr (Or.inl rfl)) | exact Or.inl (Or.inr (Or.inr rfl)) | (refine Or.inr ?_; first | omega | (simp; done) | (simp; omega)))) | (with_reducible refine Mod.alloc ?_ _) | (with_reducible refine Mod.drew ?_) | (with_reducible refine Mod.drewN ?_ _))) (fun b hb e => by
                have e1 : gq = b := by simpa [Value.ownBlock] using hb
                exact hgn (e1.trans e))
            · rcases List.mem_append.1 he with he | he
              · exact HBt.out e (HN.out.bts e he)
              · simp only [List.mem_singleton] at he
                subst he
                exact HBt.out ⟨d.fr, d.tt, p2, cap2, d.bs⟩ (Own.mono OB.out (by omega)))
          have HMM := Lib.hid (((HM.out.alloc (.cells #[.int .i64 d.fr, .int .i64 d.tt, .slice p2 d.bs.length cap2] 33)).drew.then M5.out (fun b e => (HPb.out b e).2.elim (fun h => .inl (.inl h)) .inr)).set ⟨nb, 0, none⟩ (.slice (some ⟨gq, 0, none⟩) (ds'.length + 1) capq) (.inl (.inr rfl)))
          clear hzz hgn
          go_wp2_with fail
          go_roundw
          case rel =>
            refine ⟨k + 1, by omega, by go_num, ?_, HMM.out⟩
            rw [HM1.out, HS1.out]
            refine ⟨_, _, _, by simp [Dv.con], HNN.out, fun b hb => ?_, fun e he b hb => ?_⟩
            · have e1 : gq = b := by simpa [Value.ownBlock] using hb
              rw [← e1]; exact HLq.out
            · rcases List.mem_append.1 he with he | he
              · exact HT.out e (HSub.out e he) b hb
              · simp only [List.mem_singleton] at he
                subst he
                have := Own.block OB.out b hb
                exact .inr (by omega)
          case measure => go_light; simp [intOf]; omega
    · have hke : k = da.length := by omega
      subst hke
      have t1 : decide ((da.length : Int) < (da.length : Int)) = false := by simp
      go_wp2_with fail
      go_end0
      refine ⟨rfl, Lib.hid ?_, HM⟩
      rw [List.take_length] at hr
      exact hr
end Go.Proofs.Ytkgngfjlmkclcaa.K
