/-
  SESSIONS IN MEMORY: a table of them, each with its heartbeats and its flights. No condition.
-/
import Derived.Test.YtlmkkfigmoefdaaSesBase
import Derived.Test.YtlmkkfigmoefdaaSesBaseD
import Derived.Deep.MidRow
import Derived.Laws.ResultCell
set_option linter.unusedVariables false
set_option linter.unusedSimpArgs false
namespace Nj
open Go Go.RowKit
/-- a session as it lies: what it is, and where its two slices lie -/
structure Sv where
  s : Ses
  pb : Option Addr
  cb : Nat
  pf : Option Addr
  cf : Nat
def Sv.cells (x : Sv) : List Value := [.int .i64 x.s.id, .int .i64 x.s.user, .int .i64 x.s.addr, .int .i64 x.s.nonce, .int .u8 x.s.key.k0, .int .u8 x.s.key.k1, .int .u8 x.s.key.k2, .int .u8 x.s.key.k3, .int .u8 x.s.key.k4, .int .u8 x.s.key.k5, .int .u8 x.s.key.k6, .int .u8 x.s.key.k7, .int .u8 x.s.key.k8, .int .u8 x.s.key.k9, .int .u8 x.s.key.k10, .int .u8 x.s.key.k11, .int .u8 x.s.key.k12, .int .u8 x.s.key.k13, .int .u8 x.s.key.k14, .int .u8 x.s.key.k15, .int .i64 x.s.status, .int .i64 x.s.opSeq, .int .i64 x.s.opCode, .slice x.pb x.s.beats.length x.cb, .int .i64 x.s.hst, .int .i64 x.s.hsi, .int .i64 x.s.ch.send.next, .slice x.pf x.s.ch.send.fl.length x.cf, .int .i64 x.s.ch.send.cwnd, .int .i64 x.s.ch.send.acc, .int .i64 x.s.ch.rtt.s, .int .i64 x.s.ch.rtt.v, .int .i64 x.s.ch.rtt.rto, .int .i64 x.s.ch.rtt.fails, .bool x.s.ch.rtt.has]
theorem sv_len (x : Sv) : x.cells.length = 35 := rfl
theorem sv_one (x : Sv) : ∀ u ∈ x.cells, u.oneCell' = true := by
  intro u hu
  have h : (x.cells.all fun u => u.oneCell') = true := rfl
  exact List.all_eq_true.1 h u hu
theorem svs_one (l : List Sv) : ∀ u ∈ flat Sv.cells l, u.oneCell' = true := by
  intro u hu
  simp only [flat, List.mem_flatMap] at hu
  obtain ⟨x, _, h⟩ := hu
  exact sv_one x u h
/-- a session by value: its cells are not written out -/
def Sv.val (x : Sv) : Value := .agg x.cells.toArray
/-- its two slices lie there -/
structure Sok (w : World) (x : Sv) : Prop where
  bt : Bts w (.slice x.pb x.s.beats.length x.cb) x.s.beats
  fl : Fls w (.slice x.pf x.s.ch.send.fl.length x.cf) x.s.ch.send.fl
  nx : x.s.ch.send.next ≤ 9223372036854775807
theorem Sok.keep {w w' : World} {x : Sv} (h : Sok w x) (hb : Below w.heap.size w w') : Sok w' x := ⟨Sl.keep (by decide) h.bt hb, Sl.keep (by decide) h.fl hb, h.nx⟩
/-- v is a table of these sessions -/
def Sess (w : World) (v : Value) (l : List Sv) : Prop := Sl 35 w v l.length (flat Sv.cells l) ∧ ∀ x ∈ l, Sok w x
theorem Sess.keep {w w' : World} {v : Value} {l : List Sv} (h : Sess w v l) (hb : Below w.heap.size w w') : Sess w' v l := ⟨h.1.keep (by decide) hb, fun x hx => (h.2 x hx).keep hb⟩
theorem sess_keep {w w' : World} {v : Value} {l : List Sv} (h : Hid (Sess w v l)) (hb : Hid (Below w.heap.size w w')) : Hid (Sess w' v l) := Lib.hid (h.out.keep hb.out)
theorem sess_shape {w : World} {v : Value} {l : List Sv} (h : Sess w v l) : ∃ p cap, v = .slice p l.length cap ∧ l.length ≤ cap := by
  obtain ⟨⟨_, _, p, cap, rfl, hcap, _⟩, _⟩ := h
  exact ⟨p, cap, rfl, hcap⟩
theorem sess_nil (w : World) : Sess w (.slice none 0 0) [] := ⟨sl_nil 35 w, fun _ h => by cases h⟩
/-- session i lies there -/
theorem ses_row {w : World} {b o cap n m : Nat} {l : List Sv} (h : Sl 35 w (.slice (some ⟨b, o, none⟩) n cap) m (flat Sv.cells l)) (i : Nat) (hi : i < l.length) (x : Sv) (hx : x = l[i]) : w.rangeAt b (o + i * 35) x.cells := by
  subst hx
  intro j v hv
  have hj : j < 35 := by rw [← sv_len l[i]]; exact (List.getElem?_eq_some_iff.1 hv).1
  simpa [Nat.add_assoc] using Sl.elem sv_len h i j hi hj v hv
theorem rangeAt_block {w : World} {b : Nat} {cs : List Value} {T : TypeId} (h : w.heap[b]? = some (.cells cs.toArray T)) : w.rangeAt b 0 cs := fun j v hv => by
  rw [Nat.zero_add, cell_of_block h]; simpa using hv
theorem rangeAt_keep {w w' : World} {b o : Nat} {cs : List Value} (h : w.rangeAt b o cs) (hb : Below w.heap.size w w') : w'.rangeAt b o cs := fun j v hv => by
  rw [hb.cell (p := ⟨b, o + j, none⟩) (cell_lt (h j v hv))]; exact h j v hv
theorem f_id {w : World} {b o : Nat} {x : Sv} (h : w.rangeAt b o x.cells) : w.cell? ⟨b, o, none⟩ = some (.int .i64 x.s.id) := by
  have := h 0 _ rfl
  simpa using this
theorem f_user {w : World} {b o : Nat} {x : Sv} (h : w.rangeAt b o x.cells) : w.cell? ⟨b, o + 1, none⟩ = some (.int .i64 x.s.user) := by
  have := h 1 _ rfl
  simpa using this
theorem f_addr {w : World} {b o : Nat} {x : Sv} (h : w.rangeAt b o x.cells) : w.cell? ⟨b, o + 2, none⟩ = some (.int .i64 x.s.addr) := by
  have := h 2 _ rfl
  simpa using this
theorem f_nonce {w : World} {b o : Nat} {x : Sv} (h : w.rangeAt b o x.cells) : w.cell? ⟨b, o + 3, none⟩ = some (.int .i64 x.s.nonce) := by
  have := h 3 _ rfl
  simpa using this
theorem f_status {w : World} {b o : Nat} {x : Sv} (h : w.rangeAt b o x.cells) : w.cell? ⟨b, o + 20, none⟩ = some (.int .i64 x.s.status) := by
  have := h 20 _ rfl
  simpa using this
theorem f_opSeq {w : World} {b o : Nat} {x : Sv} (h : w.rangeAt b o x.cells) : w.cell? ⟨b, o + 21, none⟩ = some (.int .i64 x.s.opSeq) := by
  have := h 21 _ rfl
  simpa using this
theorem f_opCode {w : World} {b o : Nat} {x : Sv} (h : w.rangeAt b o x.cells) : w.cell? ⟨b, o + 22, none⟩ = some (.int .i64 x.s.opCode) := by
  have := h 22 _ rfl
  simpa using this
theorem f_bts {w : World} {b o : Nat} {x : Sv} (h : w.rangeAt b o x.cells) : w.cell? ⟨b, o + 23, none⟩ = some (.slice x.pb x.s.beats.length x.cb) := by
  have := h 23 _ rfl
  simpa using this
theorem f_hst {w : World} {b o : Nat} {x : Sv} (h : w.rangeAt b o x.cells) : w.cell? ⟨b, o + 24, none⟩ = some (.int .i64 x.s.hst) := by
  have := h 24 _ rfl
  simpa using this
theorem f_hsi {w : World} {b o : Nat} {x : Sv} (h : w.rangeAt b o x.cells) : w.cell? ⟨b, o + 25, none⟩ = some (.int .i64 x.s.hsi) := by
  have := h 25 _ rfl
  simpa using this
theorem f_fls {w : World} {b o : Nat} {x : Sv} (h : w.rangeAt b o x.cells) : w.cell? ⟨b, o + 27, none⟩ = some (.slice x.pf x.s.ch.send.fl.length x.cf) := by
  have := h 27 _ rfl
  simpa using this
theorem g_id {w : World} {b : Nat} {x : Sv} (h : w.rangeAt b 0 x.cells) : w.cell? ⟨b, 0, none⟩ = some (.int .i64 x.s.id) := by
  have := h 0 _ rfl
  simpa using this
theorem g_user {w : World} {b : Nat} {x : Sv} (h : w.rangeAt b 0 x.cells) : w.cell? ⟨b, 1, none⟩ = some (.int .i64 x.s.user) := by
  have := h 1 _ rfl
  simpa using this
theorem g_addr {w : World} {b : Nat} {x : Sv} (h : w.rangeAt b 0 x.cells) : w.cell? ⟨b, 2, none⟩ = some (.int .i64 x.s.addr) := by
  have := h 2 _ rfl
  simpa using this
theorem g_nonce {w : World} {b : Nat} {x : Sv} (h : w.rangeAt b 0 x.cells) : w.cell? ⟨b, 3, none⟩ = some (.int .i64 x.s.nonce) := by
  have := h 3 _ rfl
  simpa using this
theorem g_status {w : World} {b : Nat} {x : Sv} (h : w.rangeAt b 0 x.cells) : w.cell? ⟨b, 20, none⟩ = some (.int .i64 x.s.status) := by
  have := h 20 _ rfl
  simpa using this
theorem g_opSeq {w : World} {b : Nat} {x : Sv} (h : w.rangeAt b 0 x.cells) : w.cell? ⟨b, 21, none⟩ = some (.int .i64 x.s.opSeq) := by
  have := h 21 _ rfl
  simpa using this
theorem g_opCode {w : World} {b : Nat} {x : Sv} (h : w.rangeAt b 0 x.cells) : w.cell? ⟨b, 22, none⟩ = some (.int .i64 x.s.opCode) := by
  have := h 22 _ rfl
  simpa using this
theorem g_bts {w : World} {b : Nat} {x : Sv} (h : w.rangeAt b 0 x.cells) : w.cell? ⟨b, 23, none⟩ = some (.slice x.pb x.s.beats.length x.cb) := by
  have := h 23 _ rfl
  simpa using this
theorem g_hst {w : World} {b : Nat} {x : Sv} (h : w.rangeAt b 0 x.cells) : w.cell? ⟨b, 24, none⟩ = some (.int .i64 x.s.hst) := by
  have := h 24 _ rfl
  simpa using this
theorem g_hsi {w : World} {b : Nat} {x : Sv} (h : w.rangeAt b 0 x.cells) : w.cell? ⟨b, 25, none⟩ = some (.int .i64 x.s.hsi) := by
  have := h 25 _ rfl
  simpa using this
theorem g_fls {w : World} {b : Nat} {x : Sv} (h : w.rangeAt b 0 x.cells) : w.cell? ⟨b, 27, none⟩ = some (.slice x.pf x.s.ch.send.fl.length x.cf) := by
  have := h 27 _ rfl
  simpa using this
theorem f_sd {w : World} {b o : Nat} {x : Sv} (h : w.rangeAt b o x.cells) : w.cell? ⟨b, o + 26, none⟩ = some (.int .i64 x.s.ch.send.next) ∧ w.cell? ⟨b, o + 28, none⟩ = some (.int .i64 x.s.ch.send.cwnd) ∧ w.cell? ⟨b, o + 29, none⟩ = some (.int .i64 x.s.ch.send.acc) ∧ w.cell? ⟨b, o + 30, none⟩ = some (.int .i64 x.s.ch.rtt.s) ∧ w.cell? ⟨b, o + 31, none⟩ = some (.int .i64 x.s.ch.rtt.v) ∧ w.cell? ⟨b, o + 32, none⟩ = some (.int .i64 x.s.ch.rtt.rto) ∧ w.cell? ⟨b, o + 33, none⟩ = some (.int .i64 x.s.ch.rtt.fails) ∧ w.cell? ⟨b, o + 34, none⟩ = some (.bool x.s.ch.rtt.has) :=
  ⟨by simpa using h 26 _ rfl, by simpa using h 28 _ rfl, by simpa using h 29 _ rfl, by simpa using h 30 _ rfl, by simpa using h 31 _ rfl, by simpa using h 32 _ rfl, by simpa using h 33 _ rfl, by simpa using h 34 _ rfl⟩
theorem g_sd {w : World} {b : Nat} {x : Sv} (h : w.rangeAt b 0 x.cells) : w.cell? ⟨b, 26, none⟩ = some (.int .i64 x.s.ch.send.next) ∧ w.cell? ⟨b, 28, none⟩ = some (.int .i64 x.s.ch.send.cwnd) ∧ w.cell? ⟨b, 29, none⟩ = some (.int .i64 x.s.ch.send.acc) ∧ w.cell? ⟨b, 30, none⟩ = some (.int .i64 x.s.ch.rtt.s) ∧ w.cell? ⟨b, 31, none⟩ = some (.int .i64 x.s.ch.rtt.v) ∧ w.cell? ⟨b, 32, none⟩ = some (.int .i64 x.s.ch.rtt.rto) ∧ w.cell? ⟨b, 33, none⟩ = some (.int .i64 x.s.ch.rtt.fails) ∧ w.cell? ⟨b, 34, none⟩ = some (.bool x.s.ch.rtt.has) :=
  ⟨by simpa using h 26 _ rfl, by simpa using h 28 _ rfl, by simpa using h 29 _ rfl, by simpa using h 30 _ rfl, by simpa using h 31 _ rfl, by simpa using h 32 _ rfl, by simpa using h 33 _ rfl, by simpa using h 34 _ rfl⟩
theorem g_key {w : World} {b : Nat} {x : Sv} (h : w.rangeAt b 0 x.cells) : w.cell? ⟨b, 4, none⟩ = some (.int .u8 x.s.key.k0) ∧ w.cell? ⟨b, 5, none⟩ = some (.int .u8 x.s.key.k1) ∧ w.cell? ⟨b, 6, none⟩ = some (.int .u8 x.s.key.k2) ∧ w.cell? ⟨b, 7, none⟩ = some (.int .u8 x.s.key.k3) ∧ w.cell? ⟨b, 8, none⟩ = some (.int .u8 x.s.key.k4) ∧ w.cell? ⟨b, 9, none⟩ = some (.int .u8 x.s.key.k5) ∧ w.cell? ⟨b, 10, none⟩ = some (.int .u8 x.s.key.k6) ∧ w.cell? ⟨b, 11, none⟩ = some (.int .u8 x.s.key.k7) ∧ w.cell? ⟨b, 12, none⟩ = some (.int .u8 x.s.key.k8) ∧ w.cell? ⟨b, 13, none⟩ = some (.int .u8 x.s.key.k9) ∧ w.cell? ⟨b, 14, none⟩ = some (.int .u8 x.s.key.k10) ∧ w.cell? ⟨b, 15, none⟩ = some (.int .u8 x.s.key.k11) ∧ w.cell? ⟨b, 16, none⟩ = some (.int .u8 x.s.key.k12) ∧ w.cell? ⟨b, 17, none⟩ = some (.int .u8 x.s.key.k13) ∧ w.cell? ⟨b, 18, none⟩ = some (.int .u8 x.s.key.k14) ∧ w.cell? ⟨b, 19, none⟩ = some (.int .u8 x.s.key.k15) :=
  ⟨by simpa using h 4 _ rfl, by simpa using h 5 _ rfl, by simpa using h 6 _ rfl, by simpa using h 7 _ rfl, by simpa using h 8 _ rfl, by simpa using h 9 _ rfl, by simpa using h 10 _ rfl, by simpa using h 11 _ rfl, by simpa using h 12 _ rfl, by simpa using h 13 _ rfl, by simpa using h 14 _ rfl, by simpa using h 15 _ rfl, by simpa using h 16 _ rfl, by simpa using h 17 _ rfl, by simpa using h 18 _ rfl, by simpa using h 19 _ rfl⟩
theorem g_all {w : World} {b : Nat} {x : Sv} (h : w.rangeAt b 0 x.cells) : w.cell? ⟨b, 0, none⟩ = some (.int .i64 x.s.id) ∧ w.cell? ⟨b, 1, none⟩ = some (.int .i64 x.s.user) ∧ w.cell? ⟨b, 2, none⟩ = some (.int .i64 x.s.addr) ∧ w.cell? ⟨b, 3, none⟩ = some (.int .i64 x.s.nonce) ∧ w.cell? ⟨b, 4, none⟩ = some (.int .u8 x.s.key.k0) ∧ w.cell? ⟨b, 5, none⟩ = some (.int .u8 x.s.key.k1) ∧ w.cell? ⟨b, 6, none⟩ = some (.int .u8 x.s.key.k2) ∧ w.cell? ⟨b, 7, none⟩ = some (.int .u8 x.s.key.k3) ∧ w.cell? ⟨b, 8, none⟩ = some (.int .u8 x.s.key.k4) ∧ w.cell? ⟨b, 9, none⟩ = some (.int .u8 x.s.key.k5) ∧ w.cell? ⟨b, 10, none⟩ = some (.int .u8 x.s.key.k6) ∧ w.cell? ⟨b, 11, none⟩ = some (.int .u8 x.s.key.k7) ∧ w.cell? ⟨b, 12, none⟩ = some (.int .u8 x.s.key.k8) ∧ w.cell? ⟨b, 13, none⟩ = some (.int .u8 x.s.key.k9) ∧ w.cell? ⟨b, 14, none⟩ = some (.int .u8 x.s.key.k10) ∧ w.cell? ⟨b, 15, none⟩ = some (.int .u8 x.s.key.k11) ∧ w.cell? ⟨b, 16, none⟩ = some (.int .u8 x.s.key.k12) ∧ w.cell? ⟨b, 17, none⟩ = some (.int .u8 x.s.key.k13) ∧ w.cell? ⟨b, 18, none⟩ = some (.int .u8 x.s.key.k14) ∧ w.cell? ⟨b, 19, none⟩ = some (.int .u8 x.s.key.k15) ∧ w.cell? ⟨b, 20, none⟩ = some (.int .i64 x.s.status) ∧ w.cell? ⟨b, 21, none⟩ = some (.int .i64 x.s.opSeq) ∧ w.cell? ⟨b, 22, none⟩ = some (.int .i64 x.s.opCode) ∧ w.cell? ⟨b, 23, none⟩ = some (.slice x.pb x.s.beats.length x.cb) ∧ w.cell? ⟨b, 24, none⟩ = some (.int .i64 x.s.hst) ∧ w.cell? ⟨b, 25, none⟩ = some (.int .i64 x.s.hsi) ∧ w.cell? ⟨b, 26, none⟩ = some (.int .i64 x.s.ch.send.next) ∧ w.cell? ⟨b, 27, none⟩ = some (.slice x.pf x.s.ch.send.fl.length x.cf) ∧ w.cell? ⟨b, 28, none⟩ = some (.int .i64 x.s.ch.send.cwnd) ∧ w.cell? ⟨b, 29, none⟩ = some (.int .i64 x.s.ch.send.acc) ∧ w.cell? ⟨b, 30, none⟩ = some (.int .i64 x.s.ch.rtt.s) ∧ w.cell? ⟨b, 31, none⟩ = some (.int .i64 x.s.ch.rtt.v) ∧ w.cell? ⟨b, 32, none⟩ = some (.int .i64 x.s.ch.rtt.rto) ∧ w.cell? ⟨b, 33, none⟩ = some (.int .i64 x.s.ch.rtt.fails) ∧ w.cell? ⟨b, 34, none⟩ = some (.bool x.s.ch.rtt.has) :=
  ⟨by simpa using h 0 _ rfl, by simpa using h 1 _ rfl, by simpa using h 2 _ rfl, by simpa using h 3 _ rfl, by simpa using h 4 _ rfl, by simpa using h 5 _ rfl, by simpa using h 6 _ rfl, by simpa using h 7 _ rfl, by simpa using h 8 _ rfl, by simpa using h 9 _ rfl, by simpa using h 10 _ rfl, by simpa using h 11 _ rfl, by simpa using h 12 _ rfl, by simpa using h 13 _ rfl, by simpa using h 14 _ rfl, by simpa using h 15 _ rfl, by simpa using h 16 _ rfl, by simpa using h 17 _ rfl, by simpa using h 18 _ rfl, by simpa using h 19 _ rfl, by simpa using h 20 _ rfl, by simpa using h 21 _ rfl, by simpa using h 22 _ rfl, by simpa using h 23 _ rfl, by simpa using h 24 _ rfl, by simpa using h 25 _ rfl, by simpa using h 26 _ rfl, by simpa using h 27 _ rfl, by simpa using h 28 _ rfl, by simpa using h 29 _ rfl, by simpa using h 30 _ rfl, by simpa using h 31 _ rfl, by simpa using h 32 _ rfl, by simpa using h 33 _ rfl, by simpa using h 34 _ rfl⟩
/-- two slices of elements of different types lie in different blocks -/
theorem own_apart {E E' : TypeId} {sz sz' B B' : Nat} {w : World} {v v' : Value} {n n' : Nat} {cs cs' : List Value} (h : Own E sz B w v n cs) (h' : Own E' sz' B' w v' n' cs') (hE : E ≠ E') : ∀ k, v.ownBlock = some k → v'.ownBlock ≠ some k := by
  obtain ⟨_, h | ⟨g, cap, cur, rfl, _, hh, _⟩⟩ := h
  · obtain ⟨rfl, _⟩ := h; intro k hk; cases hk
  · obtain ⟨_, h' | ⟨g', cap', cur', rfl, _, hh', _⟩⟩ := h'
    · obtain ⟨rfl, _⟩ := h'; intro k _ hk; cases hk
    · intro k hk hk'
      cases hk; cases hk'
      rw [hh] at hh'
      simp only [Option.some.injEq, Obj.cells.injEq] at hh'
      exact hE hh'.2.1
/-- few sessions, with short rows -/
def SmS (t : List Ses) : Prop := t.length ≤ 1000 ∧ ∀ s ∈ t, s.beats.length ≤ 1000 ∧ s.ch.send.fl.length ≤ 1000
def cons (l : List Sv) : List Ses := l.map (·.s)
/-- a session's slices of the call's own -/
structure SOk (Eb Ef : TypeId) (B : Nat) (w : World) (x : Sv) : Prop where
  bt : Own Eb 2 B w (.slice x.pb x.s.beats.length x.cb) x.s.beats.length (flat Bt.cells x.s.beats)
  fl : Own Ef 7 B w (.slice x.pf x.s.ch.send.fl.length x.cf) x.s.ch.send.fl.length (flat Fl.cells x.s.ch.send.fl)
  nx : x.s.ch.send.next ≤ 9223372036854775807
theorem SOk.ok {Eb Ef : TypeId} {B : Nat} {w : World} {x : Sv} (h : SOk Eb Ef B w x) : Sok w x := ⟨Own.sl h.bt, Own.sl h.fl, h.nx⟩
theorem SOk.keep {Eb Ef : TypeId} {B : Nat} {w w' : World} {x : Sv} (h : SOk Eb Ef B w x) (hb : Below w.heap.size w w') : SOk Eb Ef B w' x := ⟨h.bt.keep hb, h.fl.keep hb, h.nx⟩
theorem SOk.mono {Eb Ef : TypeId} {B B' : Nat} {w : World} {x : Sv} (h : SOk Eb Ef B w x) (hb : B' ≤ B) : SOk Eb Ef B' w x := ⟨h.bt.mono hb, h.fl.mono hb, h.nx⟩
theorem SOk.alloc {Eb Ef : TypeId} {B : Nat} {w : World} {x : Sv} (h : SOk Eb Ef B w x) (o : Obj) : SOk Eb Ef B (w.alloc o) x := ⟨h.bt.alloc o, h.fl.alloc o, h.nx⟩
theorem SOk.mod {Eb Ef : TypeId} {B : Nat} {S : Nat → Prop} {w w' : World} {x : Sv} (h : SOk Eb Ef B w x) (hm : Mod S w w') (hb : ∀ k, (Value.slice x.pb x.s.beats.length x.cb).ownBlock = some k → ¬ S k) (hf : ∀ k, (Value.slice x.pf x.s.ch.send.fl.length x.cf).ownBlock = some k → ¬ S k) : SOk Eb Ef B w' x := ⟨h.bt.mod hm hb, h.fl.mod hm hf, h.nx⟩
/-- a table of the call's own, its sessions' slices too -/
structure OwnS (Es Eb Ef : TypeId) (B : Nat) (w : World) (v : Value) (l : List Sv) : Prop where
  row : Own Es 35 B w v l.length (flat Sv.cells l)
  ok : ∀ x ∈ l, SOk Eb Ef B w x
theorem OwnS.sess {Es Eb Ef : TypeId} {B : Nat} {w : World} {v : Value} {l : List Sv} (h : OwnS Es Eb Ef B w v l) : Sess w v l := ⟨Own.sl h.row, fun x hx => (h.ok x hx).ok⟩
theorem OwnS.keep {Es Eb Ef : TypeId} {B : Nat} {w w' : World} {v : Value} {l : List Sv} (h : OwnS Es Eb Ef B w v l) (hb : Below w.heap.size w w') : OwnS Es Eb Ef B w' v l := ⟨h.row.keep hb, fun x hx => (h.ok x hx).keep hb⟩
theorem OwnS.mono {Es Eb Ef : TypeId} {B B' : Nat} {w : World} {v : Value} {l : List Sv} (h : OwnS Es Eb Ef B w v l) (hb : B' ≤ B) : OwnS Es Eb Ef B' w v l := ⟨h.row.mono hb, fun x hx => (h.ok x hx).mono hb⟩
/-- behind an append to the table, or to another row of sessions -/
theorem SOk.kept {Es Eb Ef : TypeId} {B B' : Nat} {w w' : World} {x : Sv} {v : Value} {n : Nat} {cs : List Value} (h : SOk Eb Ef B w x) (hv : Own Es 35 B' w v n cs) (hb : Eb ≠ Es) (hf : Ef ≠ Es) (HK : ∀ b o, w.heap[b]? = some o → (∀ k, v.ownBlock = some k → b ≠ k) → w'.heap[b]? = some o) : SOk Eb Ef B w' x :=
  ⟨Own.kept h.bt HK (fun g hg k hk e => own_apart h.bt hv hb g hg (e ▸ hk)), Own.kept h.fl HK (fun g hg k hk e => own_apart h.fl hv hf g hg (e ▸ hk)), h.nx⟩
theorem owns_nil (Es Eb Ef : TypeId) (B : Nat) (w : World) : OwnS Es Eb Ef B w (.slice none 0 0) [] := ⟨own_nil Es 35 B w, fun _ h => by cases h⟩
end Nj
namespace Go.Proofs.Ytlmkkfigmoefdaa.K
open Go Go.RowKit Nj
/-- a whole session, loaded -/
theorem ld_ses {w : World} {b o : Nat} {x : Sv} (h : w.rangeAt b o x.cells) : (Instr.loadAt 38 (.pointer (some ⟨b, o, none⟩))).run Try.prog w = .ok (.agg x.cells.toArray) w :=
  run_loadAt_mid w b o _ x.cells _ h Try.underlying38 rfl (by rw [sv_len]; kernel_rfl)
/-- a whole session, laid into a new variable -/
theorem st_new (w : World) (x : Sv) (b : Nat) (hb : b = w.heap.size) : (Instr.storeAt 38 (.pointer (some ⟨b, 0, none⟩)) (.agg x.cells.toArray)).run Try.prog (w.alloc (.cells #[.int .i64 0, .int .i64 0, .int .i64 0, .int .i64 0, .int .u8 0, .int .u8 0, .int .u8 0, .int .u8 0, .int .u8 0, .int .u8 0, .int .u8 0, .int .u8 0, .int .u8 0, .int .u8 0, .int .u8 0, .int .u8 0, .int .u8 0, .int .u8 0, .int .u8 0, .int .u8 0, .int .i64 0, .int .i64 0, .int .i64 0, .slice none 0 0, .int .i64 0, .int .i64 0, .int .i64 0, .slice none 0 0, .int .i64 0, .int .i64 0, .int .i64 0, .int .i64 0, .int .i64 0, .int .i64 0, .bool false] 38)) = .ok () (w.alloc (.cells x.cells.toArray 38)) := by
  subst hb
  simp only [Instr.storeAt, Instr.sureAddr, Sem.run_bind, Sem.run_pure, Result.andThen_ok]
  rw [run_storeVar_row _ _ 38 38 _ x.cells.toArray (heap_new w _ _ rfl) (by rw [List.size_toArray, sv_len]; kernel_rfl) (by rw [show x.cells.toArray.size = 35 from by rw [List.size_toArray, sv_len]]; rfl) (all_oneCell_toArray (sv_one x))]
  congr 1
  simp only [World.setRow, World.alloc]
  congr 1
  apply Array.ext_getElem?
  intro i
  rw [Array.getElem?_modify]
  by_cases h : w.heap.size = i
  · subst h
    simp
  · have h' : ¬ i = w.heap.size := fun e => h e.symm
    simp [h, h', Array.getElem?_push]
/-- THE WALK's STEP: a whole session is loaded -/
theorem ldl {ops : Array Oper} {rest : List Oper} {op : Oper} {a : Act} {w : World} {Q : Exit → Act → World → Prop} {p : Operand} {b o : Nat} {x : Sv} (h : Hid (w.rangeAt b o x.cells)) (hgd : op.guard = none) (ho : op.op = .load 38 p) (hx : a.eval p = .pointer (some ⟨b, o, none⟩))
    (hk : wpList Try.prog ops Q rest (a.put op.dst (.agg x.cells.toArray)) w) : wpList Try.prog ops Q (op :: rest) a w :=
  wpList_load_mid hgd _ p ho b o hx x.cells _ h.out Try.underlying38 rfl (by rw [sv_len]; kernel_rfl) hk
theorem heap_setCells_all {b : Nat} {T : TypeId} : ∀ (vs : List Value) (o : Nat) (w : World) (c : Array Value), w.heap[b]? = some (.cells c T (0, 0)) → o + vs.length = c.size →
    (w.setCells b o vs).heap[b]? = some (.cells ((c.toList.take o ++ vs).toArray) T (0, 0))
  | [], o, w, c, h, hs => by
    simp only [World.setCells, List.append_nil]
    rw [List.take_of_length_le (by simpa using Nat.le_of_eq hs.symm)]
    simpa using h
  | v :: vs, o, w, c, h, hs => by
    have := heap_setCells_all vs (o + 1) (w.setCell ⟨b, o, none⟩ v) _ (heap_set_same h o v) (by simp at hs ⊢; omega)
    rw [World.setCells, this]
    congr 3
    have ho : o < c.toList.length := by simp at hs ⊢; omega
    rw [Array.toList_setIfInBounds, List.take_add_one, List.take_set_of_le (Nat.le_refl _), List.getElem?_set_self ho]
    simp
/-- THE WALK's STEP: a whole session is laid into a variable: the world becomes a new one -/
theorem stl {ops : Array Oper} {rest : List Oper} {op : Oper} {a : Act} {w : World} {Q : Exit → Act → World → Prop} {p y : Operand} {b : Nat} {c : Array Value} {x : Sv} (h : Hid (w.heap[b]? = some (.cells c 38))) (hc : c.size = 35) (hgd : op.guard = none) (ho : op.op = .store 38 p y) (hx : a.eval p = .pointer (some ⟨b, 0, none⟩)) (hy : a.eval y = .agg x.cells.toArray)
    (hk : ∀ w', Hid (w'.heap[b]? = some (.cells x.cells.toArray 38)) → Hid (Mod (fun k => k = b) w w') → wpList Try.prog ops Q rest (a.put op.dst undef) w') : wpList Try.prog ops Q (op :: rest) a w := by
  refine wpList_store_mid hgd _ p y ho b 0 x.cells.toArray hx hy (fun j hj => ?_) (by rw [List.size_toArray, sv_len]; kernel_rfl) (all_oneCell_toArray (sv_one x)) (hk _ (Lib.hid ?_) (Lib.hid (mod_setCells _ _ _ (Mod.refl _ _) rfl)))
  · rw [List.size_toArray, sv_len] at hj
    rw [Nat.zero_add]
    exact ⟨by rw [cell_of_block h.out, Array.getElem?_eq_getElem (by omega)]; rfl, frozen_of_block h.out j⟩
  · have := heap_setCells_all x.cells.toArray.toList 0 w c h.out (by simp [sv_len, hc])
    simpa using this
/-- a session that is handed back through a variable -/
theorem res_ses {fn : Func} {p : Tmp} (h : fn.results = #[.cell p 38]) {tmps : Array Value} {w : World} {b : Nat} (hp : tmps.getD p undef = .pointer (some ⟨b, 0, none⟩)) {x : Sv} (hx : w.rangeAt b 0 x.cells) :
    (results fn tmps).run Try.prog w = .ok (.agg x.cells.toArray) w := by
  have hl := run_loadVar_mid (P := Try.prog) w b 0 38 x.cells _ hx Try.underlying38 rfl (by rw [sv_len]; kernel_rfl)
  simp only [results, h]
  simp [Sem.run_bind, Result.andThen, asAddr, hl, ← Array.getD_eq_getD_getElem?, hp]
theorem res_ses2 {fn : Func} {p u : Tmp} (h : fn.results = #[.cell p 38, .tmp u]) {tmps : Array Value} {w : World} {b : Nat} (hp : tmps.getD p undef = .pointer (some ⟨b, 0, none⟩)) {x : Sv} (hx : w.rangeAt b 0 x.cells) :
    (results fn tmps).run Try.prog w = .ok (.tuple #[.agg x.cells.toArray, tmps.getD u undef]) w := by
  have hl := run_loadVar_mid (P := Try.prog) w b 0 38 x.cells _ hx Try.underlying38 rfl (by rw [sv_len]; kernel_rfl)
  rw [results_cell_tmp h, hp]
  simp [Result.andThen, asAddr, hl]
end Go.Proofs.Ytlmkkfigmoefdaa.K
