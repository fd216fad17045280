/-
  THE STATEMENT 'Rows.NetCountsSaid': nightjarlaw23.NetCounts returns true for every input, and its arguments read afterwards as they read before. No condition.
-/
import Derived.Test.YtkgngfjlmkclcaaNetRead
import Derived.Test.YtkgngfjlmkclcaaNetSmall
import Derived.Test.YtkgngfjlmkclcaaRows
import Derived.Deep.DeepCutAuto
import Derived.Deep.CutBlock
import Derived.Deep.Light
import Derived.ProofKit
import Derived.OpenShut
import Derived.ShutString
import Derived.ChangeOld
import Derived.Below
set_option linter.unusedVariables false
set_option linter.unusedSimpArgs false
namespace Go.Proofs.Ytkgngfjlmkclcaa.lawNetCounts
open Go Go.RowKit Nj K

theorem place_mod (k : Int) {m : Nat} (h : 0 < m) : (k.tmod m + m) % m = (ntPlace k m : Nat) := by
  unfold ntPlace
  rw [Int.toNat_of_nonneg (Int.emod_nonneg _ (by omega))]
  have q1 := Int.emod_nonneg k (show (m : Int) ≠ 0 by omega)
  have q2 := Int.emod_lt_of_pos k (show (0 : Int) < m by omega)
  have ht : k.tmod m = k % (m : Int) ∨ k.tmod m = k % (m : Int) - m := by
    rw [Int.tmod_eq_emod]
    split
    · left; simp
    · right; simp
  rcases ht with e | e
  · rw [e, Int.add_emod, Int.emod_self, Int.add_zero, Int.emod_emod_of_dvd _ (Int.dvd_refl _), Int.emod_emod_of_dvd _ (Int.dvd_refl _)]
  · rw [show k.tmod m + m = k % (m : Int) by omega, Int.emod_emod_of_dvd _ (Int.dvd_refl _)]
theorem tmod_bd (k : Int) {m : Nat} (h : 0 < m) : k.tmod m < m ∧ -(m : Int) ≤ k.tmod m ∧ 0 ≤ k.tmod m + m := by
  have q1 := Int.emod_nonneg k (show (m : Int) ≠ 0 by omega)
  have q2 := Int.emod_lt_of_pos k (show (0 : Int) < m by omega)
  have ht : k.tmod m = k % (m : Int) ∨ k.tmod m = k % (m : Int) - m := by
    rw [Int.tmod_eq_emod]
    split
    · left; simp
    · right; simp
  omega
/-- the three cells of call i -/
theorem cls_row {w : World} {b o cap n m : Nat} {l : List Cl} (h : Sl 3 w (.slice (some ⟨b, o, none⟩) n cap) m (flat Cl.cells l)) (i : Nat) (hi : i < l.length) (d : Cl) (hd : d = l[i]) :
    w.cell? ⟨b, o + i * 3, none⟩ = some (.int .i64 d.do_) ∧ w.cell? ⟨b, o + i * 3 + 1, none⟩ = some (.int .i64 d.k) ∧ w.cell? ⟨b, o + i * 3 + 2, none⟩ = some (.slice d.p d.l.length d.cap) := by
  subst hd
  exact ⟨by simpa using Sl.elem cl_three h i 0 hi (by decide) _ rfl, by simpa [Nat.add_assoc] using Sl.elem cl_three h i 1 hi (by decide) _ rfl, by simpa [Nat.add_assoc] using Sl.elem cl_three h i 2 hi (by decide) _ rfl⟩
theorem wf_i64' {n : Int} (h : (Lit.int .i64 n).wf = true) : -9223372036854775808 ≤ n ∧ n ≤ 9223372036854775807 := by
  simpa [Lit.wf, show IntKind.i64.min = -9223372036854775808 by decide] using h
/-- all bytes within the reach -/
def Sm (l : List Dg) : Prop := ∀ d ∈ l, d.bs.length ≤ 140737488351232
theorem sm_send1 {n : Nw} {d : Dg} (h : Sm n.l) (hd : d.bs.length ≤ 140737488351232) : Sm (ntSend1 n d).l := by
  unfold ntSend1
  split
  · intro x hx
    rcases List.mem_append.1 hx with hx | hx
    · exact h x hx
    · simp only [List.mem_singleton] at hx; subst hx; exact hd
  · intro x hx
    rcases List.mem_append.1 hx with hx | hx
    · exact h x (List.mem_of_mem_drop hx)
    · simp only [List.mem_singleton] at hx; subst hx; exact hd
theorem sm_send {n : Nw} {ds : List Dg} (h : Sm n.l) (hd : Sm ds) : Sm (ntSend n ds).l := by
  induction ds generalizing n with
  | nil => exact h
  | cons d ds ih => exact ih (sm_send1 h (hd d (by simp))) (fun x hx => hd x (by simp [hx]))
theorem sm_take {n : Nw} (h : Sm n.l) (k : Int) : Sm (ntTake n k).l := fun x hx => h x (List.mem_of_mem_eraseIdx hx)

set_option maxRecDepth 100000 in
set_option maxHeartbeats 8000000 in
theorem walk (v : Value) (l : List Cl) (w : World) (h : Cls w v l) :
    Calls Try.prog 4 #[v] w fun e w' => e = .returned (.bool true) ∧ Below w.heap.size w w' := by
  have HA := Lib.hid h
  obtain ⟨hm, -, p, cap, rfl, hcap, -⟩ := h.1
  clear h
  by_cases hlong : 200 < l.length
  · have d1 := dec_t (show (200 : Int) < (l.length : Int) by omega)
    go_enter Try.func4, Try.ntmps4
    go_wp2_with fail
    refine (small23_any _).mono ?_; rintro e w1 ⟨rfl, B1⟩
    go_wp2_with fail
    go_ret
    exact ⟨rfl, B1.out⟩
  have d1 := dec_f (show ¬ (200 : Int) < (l.length : Int) by omega)
  go_enter Try.func4, Try.ntmps4
  go_wp2_with fail
  refine (small23_any _).mono ?_; rintro e w1 ⟨rfl, B1⟩
  go_wp2_with fail
  refine (nnew_r _).mono ?_; rintro e w2 ⟨rfl, N2, B2⟩
  have hz1 := B1.out.size
  have hnb : w1.heap.size < w2.heap.size := netr_box (N2.out 0)
  have BA := Lib.hid (chain B1.out B2.out)
  have N0 := Lib.hid (show NetR w.heap.size w1.heap.size (fun b => w.heap.size ≤ b) (fun _ => True) ⟨[], 0⟩ w2 from netr_mono (N2.out _) (fun b h => h.elim) (fun b h => h.elim))
  clear B1 B2 N2
  go_wp2_with fail
  go_loopw [5, 6, 7] (fun s t i wr => ∃ (k : Nat) (n : Nw) (tk : Nat), k ≤ l.length ∧ i = .int .i64 k ∧ t = .int .i64 tk ∧ s = .int .i64 ((n.l.length : Int) + tk + n.g) ∧ tk ≤ k ∧ n.l.length ≤ 64 ∧ 0 ≤ n.g ∧ n.g ≤ 101 * k ∧ Sm n.l ∧ NetR w.heap.size w1.heap.size (fun b => w.heap.size ≤ b) (fun _ => True) n wr ∧ Below w.heap.size w wr) (fun _ _ i _ => l.length - (intOf i).toNat)
  case atStart => exact ⟨0, ⟨[], 0⟩, 0, by omega, rfl, rfl, by simp, by omega, by simp, by simp, by simp, (fun x hx => by cases hx), N0.out, BA.out⟩
  case round =>
    obtain ⟨k, n, tk, hk, rfl, rfl, rfl, htk, hnl, hg0, hg1, hsm, hn, hwb⟩ := hrel
    have HN := Lib.hid hn
    have HB := Lib.hid hwb
    have HSm := Lib.hid hsm
    clear hn hwb hsm N0 BA
    have hszr := HB.out.size
    have hnbr := netr_box HN.out
    by_cases hlt : k < l.length
    · have t2 : (k : Int) < (l.length : Int) := by omega
      have t3 : (0 : Int) ≤ (k : Int) := by omega
      obtain ⟨x, hx⟩ : ∃ x, x = l[k] := ⟨_, rfl⟩
      obtain ⟨bp, op, rfl, _⟩ := HA.out.1.open (by omega)
      have HRow := Lib.hid (fun W (B : Below w.heap.size w W) => cls_row (Sl.keep (by decide) HA.out.1 B) k hlt x hx)
      obtain ⟨r0, r1, r2⟩ := HRow.out wr HB.out
      have HX := Lib.hid hx
      have HXd := Lib.hid (HA.out.2 x (by rw [hx]; simp))
      have HXk := Lib.hid HXd.out.2
      clear hx
      by_cases hbig : 100 < x.l.length
      · have d2 := dec_t (show (100 : Int) < (x.l.length : Int) by omega)
        go_wp2_with fail
        go_ret
        exact ⟨rfl, HB.out⟩
      have d2 := dec_f (show ¬ (100 : Int) < (x.l.length : Int) by omega)
      go_wp2_with fail
      refine (nall_any _ _ _ _ _ _ HN.out hnl (fun d hd => by have := HSm.out d hd; omega)).mono ?_
      rintro e w4 ⟨pW, cW, dsW, rfl, hdW, AD, B4⟩
      have HdW := Lib.hid hdW
      have hWl : dsW.length = n.l.length := by rw [← hdW, List.length_map]
      have HWl := Lib.hid hWl
      have BA := Lib.hid (chain HB.out B4.out)
      have N4 := Lib.hid (netr_keep (show NetR w.heap.size w1.heap.size (fun b => w.heap.size ≤ b ∧ b < wr.heap.size) (fun _ => True) n wr from netr_mono (netr_lt HN.out) (fun b h => h) (fun _ _ => trivial)) B4.out)
      clear hdW hWl r0 r1 r2 HN HB B4
      obtain ⟨r0, r1, r2⟩ := HRow.out w4 BA.out
      have hnb4 := netr_box N4.out
      obtain ⟨wo, hwo⟩ : ∃ wo : World, wo = wr := ⟨_, rfl⟩
      subst hwo
      go_upto_block 2 with fail
      have hs0 : 0 ≤ (n.l.length : Int) + tk + n.g := by omega
      have hs1 : (n.l.length : Int) + tk + n.g ≤ 1000000 := by omega
      have htk1 : (tk : Int) ≤ 1000 := by omega
      have htk0 : (0 : Int) ≤ (tk : Int) := by omega
      have hkk := wf_i64' HXk.out
      go_cut [5, 6] (fun s5 s6 wx => ∃ (n' : Nw) (tk' : Nat), s6 = .int .i64 tk' ∧ s5 = .int .i64 ((n'.l.length : Int) + tk' + n'.g) ∧ tk' ≤ k + 1 ∧ n'.l.length ≤ 64 ∧ 0 ≤ n'.g ∧ n'.g ≤ 101 * (k + 1) ∧ Sm n'.l ∧ NetR w.heap.size w1.heap.size (fun b => w.heap.size ≤ b) (fun _ => True) n' wx ∧ Below w.heap.size w wx)
      case first =>
        rcases (show x.do_ = 0 ∨ x.do_ = 1 ∨ x.do_ = 2 ∨ (x.do_ ≠ 0 ∧ x.do_ ≠ 1 ∧ x.do_ ≠ 2) by omega) with hd | hd | hd | ⟨hd0, hd1, hd2⟩
        · have z0 : (x.do_ == 0) = true := by simpa using hd
          clear hd
          have hx100 : x.l.length ≤ 100 := by omega
          have hx100' : (x.l.length : Int) ≤ 100 := by omega
          have hx0 : (0 : Int) ≤ (x.l.length : Int) := by omega
          go_wp2_with fail
          refine (nsend_any w.heap.size w1.heap.size _ _ n _ x.l _ N4.out BA.out.size hnl (fun W M => HXd.out.1.1.keep (M.below BA.out BA.out.size (fun b h => h.elim (fun h => h.1) (fun h => by omega)))) (by omega) (fun d hd => by have := HXd.out.1.2 d hd; omega) (by omega)).mono ?_
          rintro e w5 ⟨rfl, N5, M5⟩
          have BB := Lib.hid (M5.out.below BA.out BA.out.size (fun b h => h.elim (fun h => h.1) (fun h => by omega)))
          have hsz4 := BA.out.size
          replace N5 := Lib.hid (show NetR w.heap.size w1.heap.size (fun b => w.heap.size ≤ b) (fun _ => True) (ntSend n (x.l.map Dv.con)) w5 from netr_mono N5.out (fun b h => h.elim (fun h => h.1) (fun h => by omega)) (fun _ _ => trivial))
          clear r0 r1 r2 M5
          obtain ⟨r0, r1, r2⟩ := HRow.out w5 BB.out
          have HC := Lib.hid (send_count n hnl (x.l.map Dv.con))
          have HGo := Lib.hid (send_gone n (x.l.map Dv.con))
          have HLe := Lib.hid (send_len n hnl (x.l.map Dv.con))
          have HS2 := Lib.hid (sm_send (ds := x.l.map Dv.con) HSm.out (fun d hd => by
            simp only [List.mem_map] at hd
            obtain ⟨y, hy, rfl⟩ := hd
            exact HXd.out.1.2 y hy))
          go_wp2_with fail
          go_meet
          case rel =>
            have h1 := HC.out
            have h2 := HGo.out
            simp only [List.length_map] at h1 h2
            exact ⟨_, tk, rfl, by rw [show (n.l.length : Int) + tk + n.g + x.l.length = ((ntSend n (x.l.map Dv.con)).l.length : Int) + tk + (ntSend n (x.l.map Dv.con)).g by omega], by omega, HLe.out, by omega, by omega, HS2.out, N5.out, BB.out⟩
        · have z0 : (x.do_ == 0) = false := by simp; omega
          have z1 : (x.do_ == 1) = true := by simpa using hd
          clear hd
          by_cases hz : n.l.length = 0
          · have y1 : decide ((0 : Int) < (dsW.length : Int)) = false := dec_f (by have := HWl.out; omega)
            have y2 : decide (0 < dsW.length) = false := dec_f (by have := HWl.out; omega)
            have HZ := Lib.hid hz
            clear hz
            go_wp2_with fail
            refine (ntake_r _ _ _ _ _ x.k _ N4.out hnl hkk).mono ?_
            rintro e w5 (⟨-, rfl, B5⟩ | ⟨h, -⟩)
            case inr => exfalso; have := HZ.out; omega
            have N5 := Lib.hid (netr_keep N4.out B5.out)
            have BB := Lib.hid (chain BA.out B5.out)
            clear r0 r1 r2 B5
            go_upto_region 23 with fail
            refine gen_wp (fun w6 => Hid (Below w5.heap.size w5 w6) ∧ True) ⟨Lib.hid (by (repeat (first | (with_reducible exact Below.refl _ _) | (with_reducible refine bel_set (by first | omega | (simp; done) | (simp; omega)) ?_) | (with_reducible refine bel_alloc (by first | omega | (simp; done) | (simp; omega)) ?_) | (with_reducible refine bel_drew ?_) | (with_reducible refine bel_drewN ?_ _))); first | done | fail "left"), trivial⟩ ?_
            rintro w6 ⟨N, -⟩
            have N6 := Lib.hid (netr_keep N5.out N.out)
            replace BB := Lib.hid (chain BB.out N.out)
            clear N N5
            go_wp2_with fail
            go_meet
            case rel => exact ⟨n, tk, rfl, rfl, by omega, hnl, hg0, by omega, HSm.out, netr_mono N6.out (fun _ h => h.1) (fun _ h => h), BB.out⟩
          · have y1 : decide ((0 : Int) < (dsW.length : Int)) = true := dec_t (by have := HWl.out; omega)
            have y2 : decide (0 < dsW.length) = true := dec_t (by have := HWl.out; omega)
            have y3 : 0 < dsW.length := by have := HWl.out; omega
            have y4 : (1 : Int) ≤ (dsW.length : Int) := by omega
            have y5 : (dsW.length : Int) ≤ 64 := by have := HWl.out; omega
            have HZ := Lib.hid hz
            clear hz
            obtain ⟨k0, k1⟩ := hkk
            obtain ⟨m1, m2, m3⟩ := tmod_bd x.k y3
            obtain ⟨i, hi⟩ : ∃ i, i = ntPlace x.k dsW.length := ⟨_, rfl⟩
            have hil : i < dsW.length := by rw [hi]; exact ntPlace_lt x.k y3
            have HPl := Lib.hid (show (x.k.tmod dsW.length + dsW.length) % (dsW.length : Int) = (i : Int) by rw [place_mod x.k y3, hi])
            have HI := Lib.hid hi
            obtain ⟨y, hy⟩ : ∃ y, y = dsW[i] := ⟨_, rfl⟩
            have HY := Lib.hid hy
            clear hi hy
            go_wp2_with fail
            refine (ntake_r _ _ _ _ _ x.k _ N4.out hnl ⟨k0, k1⟩).mono ?_
            rintro e w5 (⟨h, -⟩ | ⟨-, d, hd, rfl, N5, OD, TD, M5⟩)
            case inl => exfalso; have := HZ.out; omega
            have hdy : d.con = y.con := by
              rw [← HWl.out, ← HI.out, ← HdW.out, List.getElem?_map, List.getElem?_eq_getElem hil, ← HY.out] at hd
              simpa using hd.symm
            have HDy := Lib.hid hdy
            have HTl := Lib.hid (Nj.take_len n x.k (by have := HZ.out; omega))
            have HS2 := Lib.hid (sm_take HSm.out x.k)
            clear hd hdy
            have BB := Lib.hid (M5.out.below BA.out BA.out.size (fun b h => h.elim (fun h => h.1) (fun h => by omega)))
            have hsz4 := BA.out.size
            have hS := Lib.hid (show ∀ b, wo.heap.size ≤ b → ¬ ((w.heap.size ≤ b ∧ b < wo.heap.size) ∨ b = w1.heap.size) from fun b h1 h2 => h2.elim (fun h => by omega) (fun h => by omega))
            have AD5 := Lib.hid (show AllD wo.heap.size w5 (.slice pW dsW.length cW) dsW from ⟨AD.out.1.mod M5.out (fun b hb => hS.out b (AD.out.1.block b hb)), fun e he => Own.mod (AD.out.2 e he) M5.out (fun b hb => hS.out b (Own.block (AD.out.2 e he) b hb))⟩)
            replace N5 := Lib.hid (show NetR w.heap.size w1.heap.size (fun b => w.heap.size ≤ b) (fun _ => True) (ntTake n x.k) w5 from netr_mono N5.out (fun b h => h.elim (fun h => h.1) (fun h => by omega)) (fun _ _ => trivial))
            clear r0 r1 r2 M5 N4 BA
            go_upto_region 23 with fail
            refine gen_wp (fun w6 => Hid (w6.heap[w5.heap.size]? = some (.cells #[.int .i64 d.fr, .int .i64 d.tt, .slice d.p d.bs.length d.cap] 33)) ∧ Hid (Below w5.heap.size w5 w6) ∧ True) ⟨Lib.hid (by first | (simp [World.setCell, Array.getElem?_modify]; done) | (simp [World.setCell, Array.getElem?_modify]; omega) | ((repeat (first | (with_reducible exact heap_new _ _ _ (by first | rfl | (simp; done))) | (with_reducible refine keepa ?_ _) | (simp [World.setCell, Array.getElem?_modify]; done))); done)), Lib.hid (by (repeat (first | (with_reducible exact Below.refl _ _) | (with_reducible refine bel_set (by first | omega | (simp; done) | (simp; omega)) ?_) | (with_reducible refine bel_alloc (by first | omega | (simp; done) | (simp; omega)) ?_) | (with_reducible refine bel_drew ?_) | (with_reducible refine bel_drewN ?_ _))); first | done | fail "left"), trivial⟩ ?_
            rintro w6 ⟨A9, N, -⟩
            have c_A9 := cell_of_block A9.out
            have f_A9 := frozen_of_block A9.out
            have N6 := Lib.hid (netr_keep N5.out N.out)
            replace BB := Lib.hid (chain BB.out N.out)
            have OD6 := Lib.hid (show Bts w6 d from OwnB.bts (Own.keep OD.out N.out))
            have AD6 := Lib.hid (show Dgs w6 (.slice pW dsW.length cW) dsW from ⟨(AD5.out.1.keep N.out).sl, fun e he => OwnB.bts (Own.keep (AD5.out.2 e he) N.out)⟩)
            clear N N5 AD5 OD AD TD
            obtain ⟨r0, r1, r2⟩ := HRow.out w6 BB.out
            obtain ⟨bw, ow, rfl, _⟩ := AD6.out.1.open y3
            go_upto_region 28 with fail
            rw [HPl.out]
            have i0 : (0 : Int) ≤ (i : Int) := by omega
            have i1 : (i : Int) < (dsW.length : Int) := by omega
            have HRy := Lib.hid (fun W (B : Below w6.heap.size w6 W) => dsl_row (Sl.keep (by decide) AD6.out.1 B) i hil y HY.out)
            have HBy := Lib.hid (AD6.out.2 y (by rw [HY.out]; simp))
            obtain ⟨q0, q1, q2⟩ := HRy.out w6 (Below.refl _ _)
            have HCall := Lib.hid (fun dr os => reg_of (one_any d y (Go.Sort.grow (redrawn w6 dr) os) (OD6.out.keep (below_regrown w6 dr os)) (HBy.out.keep (below_regrown w6 dr os)) HDy.out))
            have z10 := fun dr os => (HRy.out _ (below_regrown w6 dr os)).1
            have z11 := fun dr os => (HRy.out _ (below_regrown w6 dr os)).2.1
            have z12 := fun dr os => (HRy.out _ (below_regrown w6 dr os)).2.2
            have r_A9 := fun d os => cell_of_block (keepb A9.out (below_regrown w6 d os))
            refine wp_region_quiet_below (by kernel_rfl) (by kernel_rfl) ?_
            (try simp only [List.append_eq, List.cons_append, List.nil_append])
            repeat (first | go_big_quiet_skip | (go_big_quiet_want; go_big_quiet_op; first | go_big_quiet_on | (apply Exists.intro; refine ⟨fun _ => ?_, ?_⟩; (focus ((first | (go_at_call 14; with_reducible exact HCall.out _ _)))); go_big_quiet_on)))
            refine wpQuiet_nil ?_
            intro _ hw'
            obtain ⟨⟨dq, osq⟩, hw''⟩ := hw'
            subst hw''
            have BQ := Lib.hid (below_regrown w6 dq osq)
            generalize Go.Sort.grow (redrawn w6 dq) osq = wq at BQ ⊢
            clear z10 z11 z12 q0 q1 q2 r_A9 c_A9 f_A9 r0 r1 r2
            go_wp2_with fail
            go_meet
            case rel =>
              have h1 := HTl.out
              exact ⟨ntTake n x.k, tk + 1, by go_num, by rw [show (n.l.length : Int) + tk + n.g = ((ntTake n x.k).l.length : Int) + ((tk + 1 : Nat) : Int) + (ntTake n x.k).g by have e : (ntTake n x.k).g = n.g := rfl; omega], by omega, by omega, hg0, by have e : (ntTake n x.k).g = n.g := rfl; omega, HS2.out, netr_keep N6.out BQ.out, chain BB.out BQ.out⟩
        · have z0 : (x.do_ == 0) = false := by simp; omega
          have z1 : (x.do_ == 1) = false := by simp; omega
          have z2 : (x.do_ == 2) = true := by simpa using hd
          clear hd
          by_cases hz : n.l.length = 0
          · have y1 : decide ((0 : Int) < (dsW.length : Int)) = false := dec_f (by have := HWl.out; omega)
            have y2 : decide (0 < dsW.length) = false := dec_f (by have := HWl.out; omega)
            have HZ := Lib.hid hz
            clear hz
            go_wp2_with fail
            refine (nlose_r _ _ _ _ _ x.k _ N4.out hnl hkk (by omega)).mono ?_
            rintro e w5 (⟨-, rfl, B5⟩ | ⟨h, -⟩)
            case inr => exfalso; have := HZ.out; omega
            have N5 := Lib.hid (netr_keep N4.out B5.out)
            have BB := Lib.hid (chain BA.out B5.out)
            clear r0 r1 r2 B5
            go_wp2_with fail
            go_meet
            case rel => exact ⟨n, tk, rfl, rfl, by omega, hnl, hg0, by omega, HSm.out, netr_mono N5.out (fun _ h => h.1) (fun _ h => h), BB.out⟩
          · have y1 : decide ((0 : Int) < (dsW.length : Int)) = true := dec_t (by have := HWl.out; omega)
            have y2 : decide (0 < dsW.length) = true := dec_t (by have := HWl.out; omega)
            have HZ := Lib.hid hz
            clear hz
            have HTl := Lib.hid (Nj.take_len n x.k (by have := HZ.out; omega))
            have HS2 := Lib.hid (sm_take HSm.out x.k)
            go_wp2_with fail
            refine (nlose_r _ _ _ _ _ x.k _ N4.out hnl hkk (by omega)).mono ?_
            rintro e w5 (⟨h, -⟩ | ⟨-, rfl, N5, M5⟩)
            case inl => exfalso; have := HZ.out; omega
            have BB := Lib.hid (M5.out.below BA.out BA.out.size (fun b h => h.elim (fun h => h.1) (fun h => by omega)))
            have hsz4 := BA.out.size
            replace N5 := Lib.hid (show NetR w.heap.size w1.heap.size (fun b => w.heap.size ≤ b) (fun _ => True) ⟨(ntTake n x.k).l, n.g + 1⟩ w5 from netr_mono N5.out (fun b h => h.elim (fun h => h.1) (fun h => by omega)) (fun _ _ => trivial))
            clear r0 r1 r2 M5
            go_wp2_with fail
            go_meet
            case rel =>
              have h1 := HTl.out
              exact ⟨⟨(ntTake n x.k).l, n.g + 1⟩, tk, rfl, by rw [show (n.l.length : Int) + tk + n.g = ((ntTake n x.k).l.length : Int) + tk + (n.g + 1) by omega], by omega, (show (ntTake n x.k).l.length ≤ 64 by omega), (show 0 ≤ n.g + 1 by omega), (show n.g + 1 ≤ 101 * (k + 1) by omega), HS2.out, N5.out, BB.out⟩
        · have z0 : (x.do_ == 0) = false := by simpa using hd0
          have z1 : (x.do_ == 1) = false := by simpa using hd1
          have z2 : (x.do_ == 2) = false := by simpa using hd2
          clear hd0 hd1 hd2
          have HSd := Lib.hid (fun d => send1_len n d hnl)
          have HSc := Lib.hid (fun d => send1_count n d hnl)
          have HSg := Lib.hid (fun d => send1_gone n d)
          go_wp2_with fail
          refine (ntwice_any w.heap.size w1.heap.size _ _ _ x.k _ N4.out BA.out.size hnl hkk (fun d hd => by have := HSm.out d hd; omega) (by omega)).mono ?_
          rintro e w5 (⟨h, rfl, rfl⟩ | ⟨i, d, hi, hd, rfl, N5, M5⟩)
          · clear h
            go_wp2_with fail
            go_meet
            case rel => exact ⟨n, tk, rfl, rfl, by omega, hnl, hg0, by omega, HSm.out, netr_mono N4.out (fun _ h => h.1) (fun _ h => h), BA.out⟩
          · have BB := Lib.hid (M5.out.below BA.out BA.out.size (fun b h => h.elim (fun h => h.1) (fun h => by omega)))
            have hsz4 := BA.out.size
            replace N5 := Lib.hid (show NetR w.heap.size w1.heap.size (fun b => w.heap.size ≤ b) (fun _ => True) (ntSend1 n d) w5 from netr_mono N5.out (fun b h => h.elim (fun h => h.1) (fun h => by omega)) (fun _ _ => trivial))
            have HS2 := Lib.hid (sm_send1 HSm.out (HSm.out d (List.mem_of_getElem? hd)))
            clear r0 r1 r2 M5 hi hd
            go_wp2_with fail
            go_meet
            case rel =>
              have h1 := HSc.out d
              have h2 := HSg.out d
              exact ⟨_, tk, rfl, by rw [show (n.l.length : Int) + tk + n.g + 1 = ((ntSend1 n d).l.length : Int) + tk + (ntSend1 n d).g by omega], by omega, HSd.out d, by omega, by omega, HS2.out, N5.out, BB.out⟩
      case rest =>
        obtain ⟨n', tk', rfl, rfl, htk', hnl', hg0', hg1', hsm', hn', hwb'⟩ := hcut
        have N5 := Lib.hid hn'
        have BB := Lib.hid hwb'
        have HS2 := Lib.hid hsm'
        clear hn' hwb' hsm' N4 BA AD r0 r1 r2 HSm HdW HWl
        have v1 : decide ((64 : Int) < (n'.l.length : Int)) = false := dec_f (by omega)
        have v2 : decide (64 < n'.l.length) = false := dec_f (by omega)
        have v3 := bne_self_eq_false ((n'.l.length : Int))
        have v4 := bne_self_eq_false ((n'.l.length : Int) + tk' + n'.g)
        have u1 : (0 : Int) ≤ (n'.l.length : Int) := by omega
        have u2 : (n'.l.length : Int) ≤ 64 := by omega
        have u3 : (tk' : Int) ≤ 1000 := by omega
        have u4 : n'.g ≤ 1000000 := by omega
        clear hs0 hs1
        go_wp2_with fail
        refine (nlen_r _ _ _ _ _ _ N5.out).mono ?_; rintro e wa ⟨rfl, rfl⟩
        go_wp2_with fail
        refine (nall_any _ _ _ _ _ _ N5.out hnl' (fun d hd => by have := HS2.out d hd; omega)).mono ?_
        rintro e w6 ⟨pX, cX, dsX, rfl, hdX, -, B6⟩
        have hXl : dsX.length = n'.l.length := by rw [← hdX, List.length_map]
        rw [hXl]
        have N6 := Lib.hid (netr_keep N5.out B6.out)
        replace BB := Lib.hid (chain BB.out B6.out)
        clear hdX hXl N5 B6
        go_wp2_with fail
        refine (nlen_r _ _ _ _ _ _ N6.out).mono ?_; rintro e wa ⟨rfl, rfl⟩
        go_wp2_with fail
        refine (nlen_r _ _ _ _ _ _ N6.out).mono ?_; rintro e wa ⟨rfl, rfl⟩
        go_wp2_with fail
        refine (nlost_r _ _ _ _ _ _ N6.out).mono ?_; rintro e wa ⟨rfl, rfl⟩
        go_wp2_with fail
        go_roundw
        case rel => exact ⟨k + 1, n', tk', by omega, by go_num, rfl, rfl, htk', hnl', hg0', by omega, HS2.out, N6.out, BB.out⟩
        case measure => go_light; simp [intOf]; omega
    · have hke : k = l.length := by omega
      subst hke
      have t2 : decide ((l.length : Int) < (l.length : Int)) = false := by simp
      go_wp2_with fail
      go_ret
      exact ⟨rfl, HB.out⟩

end Go.Proofs.Ytkgngfjlmkclcaa.lawNetCounts
namespace Go.Proofs.Ytkgngfjlmkclcaa.lawNetCounts
open Go.ChangeShapes Go.WideShapes Go.RowKit
set_option linter.unusedVariables false
theorem own : ownKnob Try.prog.godebug = none := by kernel_rfl
theorem laidOut : laidOutB Try.prog = true := by kernel_rfl
set_option maxRecDepth 100000 in
theorem lifted (os : Os) (started : os.Started) (H : Type) (enc : TypeId × Value → H) :
    ReturnsInHanded {} Try.checked os 4 .any (Rows.netCountsSpec.pre6 enc Try.prog Try.f4 Rows.netCountsRow.domain false) (Rows.netCountsSpec.post enc Try.prog Try.f4 false true false false) := by
  refine returnsInHanded_of_change_sized (C := Try.checked) own started (by kernel_rfl) Try.func4
    (ChangeSpec.witness6 (enc := enc) (C := Try.checked) false ⟨#[], #[.slice none 0 0], []⟩ 8 (by kernel_rfl) (by kernel_rfl) (by kernel_rfl) (by kernel_rfl)) ?_
  intro W base args ds gs before hval0 hW hcnd hsz0 _
  have hsz : (DataW.weightsEach Try.prog (Try.f4.params.toList ++ Rows.netCountsSpec.plain.varTypes Try.prog) (ds ++ gs)).all (· ≤ reachBytes) = true := hsz0
  clear hsz0
  have hval : ∀ (j : Nat) t v, Try.f4.params[j]? = some t → args[j]? = some v → Value.okWide Try.prog W .any base t v := hval0
  have hW' := hW
  obtain ⟨p, q, hA0, hV, rfl, hfz, hnd⟩ := hW
  have hA : DataW.TrodAll enc Try.prog W 0 (fun _ => true) true Try.f4.params.toList args.toList ds p := hA0
  rw [Try.params4] at hA hval hsz
  obtain ⟨v0, vs0, d0, ds0, p0, q0, hargs, rfl, rfl, h0, r0⟩ := trodAll_cons hA
  obtain ⟨rfl, rfl, rfl⟩ := trodAll_nil r0
  obtain rfl : args = #[v0] := by cases args; simp_all
  obtain ⟨rfl, rfl⟩ := trodVars_none hV
  obtain ⟨a0, len0, cap0, rfl⟩ := okWide_slice Try.underlying22 (hval 0 22 v0 rfl rfl)
  have k0 := h0
  have lt0 : ∀ x ∈ p0, x.block < W.heap.size := by obtain ⟨m, hm⟩ := k0; exact DataW.trod_lt m _ _ _ hm
  have fit0 : Nj.Fit Try.prog 22 d0 := fun n hn => by simpa using List.all_eq_true.1 hsz n (DataW.weights_mem_each (j := 0) rfl rfl n hn)
  obtain ⟨z0, y0, w0⟩ : ∃ l : List Nj.Cl, l.length = len0 ∧ Nj.Cls W (.slice a0 len0 cap0) l := by
    obtain ⟨fuel, hf⟩ := h0
    exact K.open_cls hf fit0
  clear hA0 hval0
  refine (walk _ z0 W w0).mono fun e W' ⟨he, bel⟩ => ?_
  subst he
  exact ⟨_, rfl, _, _, _, [], _, [], hW', trodAll_mk1 (shut_bool Try.underlying4 _), (trodAll_cons_mk (Below.trod laidOut (by kernel_rfl) (of_decide_eq_true (by kernel_rfl)) k0 bel lt0) trodAll_mk0), rfl, bel.frame _, fun h => by cases h⟩
theorem over : Rows.netCountsRow.holds Try.pinned (OpenSpec.ofChange Rows.netCountsSpec) :=
  OpenClaim.holds_of_wide 4 Try.f4 rfl rfl rfl rfl rfl rfl rfl ⟨rfl, rfl, rfl, rfl, rfl⟩ rfl rfl rfl rfl rfl (by kernel_rfl) Try.func4 (by kernel_rfl)
    (of_decide_eq_true (by kernel_rfl)) (by unfold Func.isWrapper; first | (rw [if_pos (by decide +kernel)]; kernel_rfl) | (rw [if_neg (by decide +kernel)]; exact ⟨rfl, rfl⟩))
    (fun os started H enc _ => lifted os started H enc)
/-- THE STATEMENT -/
theorem proved : Rows.NetCountsSaid := over
end Go.Proofs.Ytkgngfjlmkclcaa.lawNetCounts
#print axioms Go.Proofs.Ytkgngfjlmkclcaa.lawNetCounts.proved
