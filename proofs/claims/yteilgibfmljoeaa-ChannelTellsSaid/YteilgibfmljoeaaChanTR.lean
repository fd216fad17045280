/-
  nightjarref12.Tick: THE REGION 't, f, _ := Resend(s, due[i], now)', in whatever order.
-/
import Derived.Test.YteilgibfmljoeaaChanRef
import Derived.Test.YteilgibfmljoeaaBox
set_option linter.unusedVariables false
set_option linter.unusedSimpArgs false
namespace Go.Proofs.Yteilgibfmljoeaa.K
open Go Go.RowKit Nj

set_option maxRecDepth 100000 in
def QT (bd od k capd b9 : Nat) (D : List Int) (n' c' a' : Int) (l' : List Fl) (p1 : Option Addr) (cap1 : Nat) (x now : Int) (S' : Sd) (f : Fl) (ok : Bool) (w0 : World) (c0 c1 c2 c3 c4 c5 c6 c7 c8 c9 c10 c11 c12 c13 c17 c18 c19 c20 c21 c22 c23 c24 c25 c26 c27 c28 c29 c30 c31 c32 c33 c34 c35 c36 c37 c38 c39 c40 c41 c42 c43 c44 c45 c46 c47 c48 c49 c50 c51 c52 c53 c54 c55 c67 c68 c69 c70 c71 c72 c73 c74 c75 c76 c77 : Value) (l : Array Bool) (a : Act) (w : World) : Prop :=
  ∃ (b0 b1 b2 b3 b4 b5 b6 b7 b8 b9 b10 b11 b12 b13 b14 b15 : Bool) (v0 v1 v2 v3 v4 v5 vc vm e0 e1 e2 y0 y1 z0 : Value) (g0 g1 : Nat)(q1 : Option Addr) (cq1 : Nat),
    l = #[b0, b1, b2, b3, b4, b5, b6, b7, b8, b9, b10, b11, b12, b13, b14, b15] ∧ a = ⟨List.toArray (c0 :: c1 :: c2 :: c3 :: c4 :: c5 :: c6 :: c7 :: c8 :: c9 :: c10 :: c11 :: c12 :: c13 :: y0 :: y1 :: z0 :: c17 :: c18 :: c19 :: c20 :: c21 :: c22 :: c23 :: c24 :: c25 :: c26 :: c27 :: c28 :: c29 :: c30 :: c31 :: c32 :: c33 :: c34 :: c35 :: c36 :: c37 :: c38 :: c39 :: c40 :: c41 :: c42 :: c43 :: c44 :: c45 :: c46 :: c47 :: c48 :: c49 :: c50 :: c51 :: c52 :: c53 :: c54 :: c55 :: vm :: v0 :: v1 :: v2 :: v3 :: v4 :: v5 :: vc :: e0 :: e1 :: e2 :: c67 :: c68 :: c69 :: c70 :: c71 :: c72 :: c73 :: c74 :: c75 :: c76 :: c77 :: []), []⟩ ∧ Hid (Below w0.heap.size w0 w) ∧
    Hid (b0 = true → v0 = .agg #[.int .i64 n', .slice p1 l'.length cap1, .int .i64 c', .int .i64 a']) ∧ Hid (b1 = true → v1 = .slice (some ⟨bd, od, none⟩) D.length capd) ∧ Hid (b2 = true → v2 = .int .i64 k) ∧ Hid (b3 = true → v3 = .pointer (some ⟨bd, od + k, none⟩)) ∧ Hid (b4 = true → v4 = .int .i64 x) ∧ Hid (b5 = true → v5 = .int .i64 now) ∧ Hid (b6 = true → vc = .tuple #[.agg #[.int .i64 S'.next, .slice q1 S'.fl.length cq1, .int .i64 S'.cwnd, .int .i64 S'.acc], .agg #[.int .i64 f.seq, .int .i64 f.note.user, .int .i64 f.note.ver, .int .i64 f.note.stat, .int .i64 f.note.cnt, .int .i64 f.at_, .int .i64 f.tries], .bool ok] ∧ (Own 40 7 w0.heap.size w (.slice q1 S'.fl.length cq1) S'.fl.length (flat Fl.cells S'.fl)) ∧ ∀ b, (fun b => (Value.slice q1 S'.fl.length cq1).ownBlock = some b) b → w0.heap.size ≤ b ∧ b < w.heap.size) ∧ Hid (b7 = true → b6 = true ∧ vm = .tuple #[.agg #[.int .i64 S'.next, .slice q1 S'.fl.length cq1, .int .i64 S'.cwnd, .int .i64 S'.acc], .agg #[.int .i64 f.seq, .int .i64 f.note.user, .int .i64 f.note.ver, .int .i64 f.note.stat, .int .i64 f.note.cnt, .int .i64 f.at_, .int .i64 f.tries], .bool ok]) ∧ Hid (b8 = true → b6 = true ∧ e0 = .agg #[.int .i64 S'.next, .slice q1 S'.fl.length cq1, .int .i64 S'.cwnd, .int .i64 S'.acc]) ∧ Hid (b9 = true → b6 = true ∧ e1 = .agg #[.int .i64 f.seq, .int .i64 f.note.user, .int .i64 f.note.ver, .int .i64 f.note.stat, .int .i64 f.note.cnt, .int .i64 f.at_, .int .i64 f.tries]) ∧ Hid (b10 = true → b6 = true ∧ e2 = .bool ok) ∧ Hid (b11 = true → y0 = .pointer (some ⟨g0, 0, none⟩) ∧ Bq w0.heap.size g0 (.cells #[.int .i64 0, .slice none 0 0, .int .i64 0, .int .i64 0] 24) (.cells #[.int .i64 S'.next, .slice q1 S'.fl.length cq1, .int .i64 S'.cwnd, .int .i64 S'.acc] 24) b13 b6 (fun b => (Value.slice q1 S'.fl.length cq1).ownBlock = some b) w) ∧ Hid (b12 = true → y1 = .pointer (some ⟨g1, 0, none⟩) ∧ Bq w0.heap.size g1 (.cells #[.int .i64 0, .int .i64 0, .int .i64 0, .int .i64 0, .int .i64 0, .int .i64 0, .int .i64 0] 40) (.cells #[.int .i64 f.seq, .int .i64 f.note.user, .int .i64 f.note.ver, .int .i64 f.note.stat, .int .i64 f.note.cnt, .int .i64 f.at_, .int .i64 f.tries] 40) b14 b6 (fun b => (Value.slice q1 S'.fl.length cq1).ownBlock = some b) w) ∧ Hid (b13 = true → b11 = true) ∧ Hid (b14 = true → b12 = true) ∧ Hid (b15 = true → b6 = true ∧ z0 = .bool ok) ∧ Hid (b11 = true → b12 = true → g0 ≠ g1)
set_option maxRecDepth 100000 in
set_option maxHeartbeats 8000000 in
theorem QT_elim (bd od k capd b9 : Nat) (D : List Int) (n' c' a' : Int) (l' : List Fl) (p1 : Option Addr) (cap1 : Nat) (x now : Int) (S' : Sd) (f : Fl) (ok : Bool) (w0 : World) (c0 c1 c2 c3 c4 c5 c6 c7 c8 c9 c10 c11 c12 c13 c17 c18 c19 c20 c21 c22 c23 c24 c25 c26 c27 c28 c29 c30 c31 c32 c33 c34 c35 c36 c37 c38 c39 c40 c41 c42 c43 c44 c45 c46 c47 c48 c49 c50 c51 c52 c53 c54 c55 c67 c68 c69 c70 c71 c72 c73 c74 c75 c76 c77 : Value) (l : Array Bool) (a : Act) (w : World) {C : Prop} (h : QT bd od k capd b9 D n' c' a' l' p1 cap1 x now S' f ok w0 c0 c1 c2 c3 c4 c5 c6 c7 c8 c9 c10 c11 c12 c13 c17 c18 c19 c20 c21 c22 c23 c24 c25 c26 c27 c28 c29 c30 c31 c32 c33 c34 c35 c36 c37 c38 c39 c40 c41 c42 c43 c44 c45 c46 c47 c48 c49 c50 c51 c52 c53 c54 c55 c67 c68 c69 c70 c71 c72 c73 c74 c75 c76 c77 l a w) (k : ∀ (b0 b1 b2 b3 b4 b5 b6 b7 b8 b9 b10 b11 b12 b13 b14 b15 : Bool) (v0 v1 v2 v3 v4 v5 vc vm e0 e1 e2 y0 y1 z0 : Value) (g0 g1 : Nat)(q1 : Option Addr) (cq1 : Nat), (l = #[b0, b1, b2, b3, b4, b5, b6, b7, b8, b9, b10, b11, b12, b13, b14, b15]) → (a = ⟨List.toArray (c0 :: c1 :: c2 :: c3 :: c4 :: c5 :: c6 :: c7 :: c8 :: c9 :: c10 :: c11 :: c12 :: c13 :: y0 :: y1 :: z0 :: c17 :: c18 :: c19 :: c20 :: c21 :: c22 :: c23 :: c24 :: c25 :: c26 :: c27 :: c28 :: c29 :: c30 :: c31 :: c32 :: c33 :: c34 :: c35 :: c36 :: c37 :: c38 :: c39 :: c40 :: c41 :: c42 :: c43 :: c44 :: c45 :: c46 :: c47 :: c48 :: c49 :: c50 :: c51 :: c52 :: c53 :: c54 :: c55 :: vm :: v0 :: v1 :: v2 :: v3 :: v4 :: v5 :: vc :: e0 :: e1 :: e2 :: c67 :: c68 :: c69 :: c70 :: c71 :: c72 :: c73 :: c74 :: c75 :: c76 :: c77 :: []), []⟩) → (Hid (Below w0.heap.size w0 w)) → (Hid (b0 = true → v0 = .agg #[.int .i64 n', .slice p1 l'.length cap1, .int .i64 c', .int .i64 a'])) → (Hid (b1 = true → v1 = .slice (some ⟨bd, od, none⟩) D.length capd)) → (Hid (b2 = true → v2 = .int .i64 k)) → (Hid (b3 = true → v3 = .pointer (some ⟨bd, od + k, none⟩))) → (Hid (b4 = true → v4 = .int .i64 x)) → (Hid (b5 = true → v5 = .int .i64 now)) → (Hid (b6 = true → vc = .tuple #[.agg #[.int .i64 S'.next, .slice q1 S'.fl.length cq1, .int .i64 S'.cwnd, .int .i64 S'.acc], .agg #[.int .i64 f.seq, .int .i64 f.note.user, .int .i64 f.note.ver, .int .i64 f.note.stat, .int .i64 f.note.cnt, .int .i64 f.at_, .int .i64 f.tries], .bool ok] ∧ (Own 40 7 w0.heap.size w (.slice q1 S'.fl.length cq1) S'.fl.length (flat Fl.cells S'.fl)) ∧ ∀ b, (fun b => (Value.slice q1 S'.fl.length cq1).ownBlock = some b) b → w0.heap.size ≤ b ∧ b < w.heap.size)) → (Hid (b7 = true → b6 = true ∧ vm = .tuple #[.agg #[.int .i64 S'.next, .slice q1 S'.fl.length cq1, .int .i64 S'.cwnd, .int .i64 S'.acc], .agg #[.int .i64 f.seq, .int .i64 f.note.user, .int .i64 f.note.ver, .int .i64 f.note.stat, .int .i64 f.note.cnt, .int .i64 f.at_, .int .i64 f.tries], .bool ok])) → (Hid (b8 = true → b6 = true ∧ e0 = .agg #[.int .i64 S'.next, .slice q1 S'.fl.length cq1, .int .i64 S'.cwnd, .int .i64 S'.acc])) → (Hid (b9 = true → b6 = true ∧ e1 = .agg #[.int .i64 f.seq, .int .i64 f.note.user, .int .i64 f.note.ver, .int .i64 f.note.stat, .int .i64 f.note.cnt, .int .i64 f.at_, .int .i64 f.tries])) → (Hid (b10 = true → b6 = true ∧ e2 = .bool ok)) → (Hid (b11 = true → y0 = .pointer (some ⟨g0, 0, none⟩) ∧ Bq w0.heap.size g0 (.cells #[.int .i64 0, .slice none 0 0, .int .i64 0, .int .i64 0] 24) (.cells #[.int .i64 S'.next, .slice q1 S'.fl.length cq1, .int .i64 S'.cwnd, .int .i64 S'.acc] 24) b13 b6 (fun b => (Value.slice q1 S'.fl.length cq1).ownBlock = some b) w)) → (Hid (b12 = true → y1 = .pointer (some ⟨g1, 0, none⟩) ∧ Bq w0.heap.size g1 (.cells #[.int .i64 0, .int .i64 0, .int .i64 0, .int .i64 0, .int .i64 0, .int .i64 0, .int .i64 0] 40) (.cells #[.int .i64 f.seq, .int .i64 f.note.user, .int .i64 f.note.ver, .int .i64 f.note.stat, .int .i64 f.note.cnt, .int .i64 f.at_, .int .i64 f.tries] 40) b14 b6 (fun b => (Value.slice q1 S'.fl.length cq1).ownBlock = some b) w)) → (Hid (b13 = true → b11 = true)) → (Hid (b14 = true → b12 = true)) → (Hid (b15 = true → b6 = true ∧ z0 = .bool ok)) → (Hid (b11 = true → b12 = true → g0 ≠ g1)) → C) : C :=
  Exists.elim h fun b0 h => Exists.elim h fun b1 h => Exists.elim h fun b2 h => Exists.elim h fun b3 h => Exists.elim h fun b4 h => Exists.elim h fun b5 h => Exists.elim h fun b6 h => Exists.elim h fun b7 h => Exists.elim h fun b8 h => Exists.elim h fun b9 h => Exists.elim h fun b10 h => Exists.elim h fun b11 h => Exists.elim h fun b12 h => Exists.elim h fun b13 h => Exists.elim h fun b14 h => Exists.elim h fun b15 h => Exists.elim h fun v0 h => Exists.elim h fun v1 h => Exists.elim h fun v2 h => Exists.elim h fun v3 h => Exists.elim h fun v4 h => Exists.elim h fun v5 h => Exists.elim h fun vc h => Exists.elim h fun vm h => Exists.elim h fun e0 h => Exists.elim h fun e1 h => Exists.elim h fun e2 h => Exists.elim h fun y0 h => Exists.elim h fun y1 h => Exists.elim h fun z0 h => Exists.elim h fun g0 h => Exists.elim h fun g1 h => Exists.elim h fun q1 h => Exists.elim h fun cq1 h => k b0 b1 b2 b3 b4 b5 b6 b7 b8 b9 b10 b11 b12 b13 b14 b15 v0 v1 v2 v3 v4 v5 vc vm e0 e1 e2 y0 y1 z0 g0 g1 q1 cq1 h.1 h.2.1 h.2.2.1 h.2.2.2.1 h.2.2.2.2.1 h.2.2.2.2.2.1 h.2.2.2.2.2.2.1 h.2.2.2.2.2.2.2.1 h.2.2.2.2.2.2.2.2.1 h.2.2.2.2.2.2.2.2.2.1 h.2.2.2.2.2.2.2.2.2.2.1 h.2.2.2.2.2.2.2.2.2.2.2.1 h.2.2.2.2.2.2.2.2.2.2.2.2.1 h.2.2.2.2.2.2.2.2.2.2.2.2.2.1 h.2.2.2.2.2.2.2.2.2.2.2.2.2.2.1 h.2.2.2.2.2.2.2.2.2.2.2.2.2.2.2.1 h.2.2.2.2.2.2.2.2.2.2.2.2.2.2.2.2.1 h.2.2.2.2.2.2.2.2.2.2.2.2.2.2.2.2.2.1 h.2.2.2.2.2.2.2.2.2.2.2.2.2.2.2.2.2.2.1 h.2.2.2.2.2.2.2.2.2.2.2.2.2.2.2.2.2.2.2

noncomputable def QT_code : Code := ((Try.f43.body.bind (findR 10)).getD .skip)
set_option maxRecDepth 100000 in
set_option maxHeartbeats 8000000 in
theorem QT_reg (bd od k capd b9 : Nat) (D : List Int) (n' c' a' : Int) (l' : List Fl) (p1 : Option Addr) (cap1 : Nat) (x now : Int) (S' : Sd) (f : Fl) (ok : Bool) (w0 : World) (c0 c2 c3 c4 c5 c6 c7 c10 c11 c12 c14 c15 c16 c17 c18 c19 c20 c21 c22 c23 c24 c25 c26 c27 c28 c29 c30 c31 c32 c33 c34 c35 c36 c37 c38 c39 c40 c41 c42 c43 c44 c45 c46 c47 c48 c49 c50 c51 c52 c53 c54 c55 c56 c57 c58 c59 c60 c61 c62 c63 c64 c65 c66 c67 c68 c69 c70 c71 c72 c73 c74 c75 c76 c77 : Value) (Q : Exit → Act → World → Prop) (A9 : Hid (w0.heap[b9]? = some (.cells #[.int .i64 n', .slice p1 l'.length cap1, .int .i64 c', .int .i64 a'] 24))) (HI : Hid (Ints w0 (.slice (some ⟨bd, od, none⟩) D.length capd) D)) (hlt : k < D.length) (hm : D.length ≤ 9223372036854775807) (t1 : (k : Int) < (D.length : Int)) (t2 : (0 : Int) ≤ (k : Int)) (HXx : Hid (x = D[k])) (HSt : Hid (∀ W, Below w0.heap.size w0 W → Calls Try.prog 63 #[.agg #[.int .i64 n', .slice p1 l'.length cap1, .int .i64 c', .int .i64 a'], .int .i64 x, .int .i64 now] W (RetSd3 W S' f ok)))
    (hQ : ∀ (q1 : Option Addr) (cq1 : Nat) (g0 g1 : Nat) (w : World), Below w0.heap.size w0 w → (Own 40 7 w0.heap.size w (.slice q1 S'.fl.length cq1) S'.fl.length (flat Fl.cells S'.fl)) → (∀ b, (fun b => (Value.slice q1 S'.fl.length cq1).ownBlock = some b) b → w0.heap.size ≤ b ∧ b < w.heap.size) → w0.heap.size ≤ g0 → w.heap[g0]? = some (.cells #[.int .i64 S'.next, .slice q1 S'.fl.length cq1, .int .i64 S'.cwnd, .int .i64 S'.acc] 24) → w0.heap.size ≤ g1 → w.heap[g1]? = some (.cells #[.int .i64 f.seq, .int .i64 f.note.user, .int .i64 f.note.ver, .int .i64 f.note.stat, .int .i64 f.note.cnt, .int .i64 f.at_, .int .i64 f.tries] 40) → Q .normal ⟨List.toArray (c0 :: .int .i64 now :: c2 :: c3 :: c4 :: c5 :: c6 :: c7 :: .slice (some ⟨bd, od, none⟩) D.length capd :: .pointer (some ⟨b9, 0, none⟩) :: c10 :: c11 :: c12 :: .int .i64 k :: .pointer (some ⟨g0, 0, none⟩) :: .pointer (some ⟨g1, 0, none⟩) :: .bool ok :: c17 :: c18 :: c19 :: c20 :: c21 :: c22 :: c23 :: c24 :: c25 :: c26 :: c27 :: c28 :: c29 :: c30 :: c31 :: c32 :: c33 :: c34 :: c35 :: c36 :: c37 :: c38 :: c39 :: c40 :: c41 :: c42 :: c43 :: c44 :: c45 :: c46 :: c47 :: c48 :: c49 :: c50 :: c51 :: c52 :: c53 :: c54 :: c55 :: .tuple #[.agg #[.int .i64 S'.next, .slice q1 S'.fl.length cq1, .int .i64 S'.cwnd, .int .i64 S'.acc], .agg #[.int .i64 f.seq, .int .i64 f.note.user, .int .i64 f.note.ver, .int .i64 f.note.stat, .int .i64 f.note.cnt, .int .i64 f.at_, .int .i64 f.tries], .bool ok] :: .agg #[.int .i64 n', .slice p1 l'.length cap1, .int .i64 c', .int .i64 a'] :: .slice (some ⟨bd, od, none⟩) D.length capd :: .int .i64 k :: .pointer (some ⟨bd, od + k, none⟩) :: .int .i64 x :: .int .i64 now :: .tuple #[.agg #[.int .i64 S'.next, .slice q1 S'.fl.length cq1, .int .i64 S'.cwnd, .int .i64 S'.acc], .agg #[.int .i64 f.seq, .int .i64 f.note.user, .int .i64 f.note.ver, .int .i64 f.note.stat, .int .i64 f.note.cnt, .int .i64 f.at_, .int .i64 f.tries], .bool ok] :: .agg #[.int .i64 S'.next, .slice q1 S'.fl.length cq1, .int .i64 S'.cwnd, .int .i64 S'.acc] :: .agg #[.int .i64 f.seq, .int .i64 f.note.user, .int .i64 f.note.ver, .int .i64 f.note.stat, .int .i64 f.note.cnt, .int .i64 f.at_, .int .i64 f.tries] :: .bool ok :: c67 :: c68 :: c69 :: c70 :: c71 :: c72 :: c73 :: c74 :: c75 :: c76 :: c77 :: []), []⟩ w) :
    Code.wp Try.prog QT_code Q ⟨List.toArray (c0 :: .int .i64 now :: c2 :: c3 :: c4 :: c5 :: c6 :: c7 :: .slice (some ⟨bd, od, none⟩) D.length capd :: .pointer (some ⟨b9, 0, none⟩) :: c10 :: c11 :: c12 :: .int .i64 k :: c14 :: c15 :: c16 :: c17 :: c18 :: c19 :: c20 :: c21 :: c22 :: c23 :: c24 :: c25 :: c26 :: c27 :: c28 :: c29 :: c30 :: c31 :: c32 :: c33 :: c34 :: c35 :: c36 :: c37 :: c38 :: c39 :: c40 :: c41 :: c42 :: c43 :: c44 :: c45 :: c46 :: c47 :: c48 :: c49 :: c50 :: c51 :: c52 :: c53 :: c54 :: c55 :: c56 :: c57 :: c58 :: c59 :: c60 :: c61 :: c62 :: c63 :: c64 :: c65 :: c66 :: c67 :: c68 :: c69 :: c70 :: c71 :: c72 :: c73 :: c74 :: c75 :: c76 :: c77 :: []), []⟩ w0 := by
  conv => arg 2; whnf
  apply wp_region_inv (QT bd od k capd b9 D n' c' a' l' p1 cap1 x now S' f ok w0 c0 (.int .i64 now) c2 c3 c4 c5 c6 c7 (.slice (some ⟨bd, od, none⟩) D.length capd) (.pointer (some ⟨b9, 0, none⟩)) c10 c11 c12 (.int .i64 k) c17 c18 c19 c20 c21 c22 c23 c24 c25 c26 c27 c28 c29 c30 c31 c32 c33 c34 c35 c36 c37 c38 c39 c40 c41 c42 c43 c44 c45 c46 c47 c48 c49 c50 c51 c52 c53 c54 c55 c67 c68 c69 c70 c71 c72 c73 c74 c75 c76 c77) (by kernel_rfl) (by kernel_rfl)
  · skip
    exact ⟨false, false, false, false, false, false, false, false, false, false, false, false, false, false, false, false, _, _, _, _, _, _, _, _, _, _, _, _, _, _, 0, 0, none, 0, rfl, rfl, Lib.hid (bel_drew (Below.refl _ _)), Lib.hid (fun e => by cases e), Lib.hid (fun e => by cases e), Lib.hid (fun e => by cases e), Lib.hid (fun e => by cases e), Lib.hid (fun e => by cases e), Lib.hid (fun e => by cases e), Lib.hid (fun e => by cases e), Lib.hid (fun e => by cases e), Lib.hid (fun e => by cases e), Lib.hid (fun e => by cases e), Lib.hid (fun e => by cases e), Lib.hid (fun e => by cases e), Lib.hid (fun e => by cases e), Lib.hid (fun e => by cases e), Lib.hid (fun e => by cases e), Lib.hid (fun e => by cases e), Lib.hid (fun e => by cases e)⟩
  · skip
    intro az wz hI
    refine QT_elim _ _ _ _ _ _ _ _ _ _ _ _ _ _ _ _ _ _ _ _ _ _ _ _ _ _ _ _ _ _ _ _ _ _ _ _ _ _ _ _ _ _ _ _ _ _ _ _ _ _ _ _ _ _ _ _ _ _ _ _ _ _ _ _ _ _ _ _ _ _ _ _ _ _ _ _ _ _ _ _ _ _ _ _ _ hI ?_
    clear hI
    intro b0 b1 b2 b3 b4 b5 b6 b7 b8 b9 b10 b11 b12 b13 b14 b15 v0 v1 v2 v3 v4 v5 vc vm e0 e1 e2 y0 y1 z0 g0 g1 q1 cq1
    intro hl ha XB X0 X1 X2 X3 X4 X5 X6 X7 X8 X9 X10 X11 X12 X13 X14 X15 D01
    subst ha
    replace hl : #[true, true, true, true, true, true, true, true, true, true, true, true, true, true, true, true] = #[b0, b1, b2, b3, b4, b5, b6, b7, b8, b9, b10, b11, b12, b13, b14, b15] := hl
    cases hl
    have q0 := X0.out rfl
    have q1 := X1.out rfl
    have q2 := X2.out rfl
    have q3 := X3.out rfl
    have q4 := X4.out rfl
    have q5 := X5.out rfl
    obtain ⟨q6, hfp, hnb⟩ := X6.out rfl
    obtain ⟨-, q7⟩ := X7.out rfl
    obtain ⟨-, q8⟩ := X8.out rfl
    obtain ⟨-, q9⟩ := X9.out rfl
    obtain ⟨-, q10⟩ := X10.out rfl
    obtain ⟨q11, hg0, -, -, hz0, -⟩ := X11.out rfl
    replace hz0 := (hz0 rfl).2
    obtain ⟨q12, hg1, -, -, hz1, -⟩ := X12.out rfl
    replace hz1 := (hz1 rfl).2
    obtain ⟨-, q15⟩ := X15.out rfl
    subst q0 q1 q2 q3 q4 q5 q6 q7 q8 q9 q10 q11 q12 q15
    clear X0 X1 X2 X3 X4 X5 X6 X7 X8 X9 X10 X11 X12 X13 X14 X15
    exact hQ q1 cq1 g0 g1 wz XB.out hfp hnb hg0 hz0 hg1 hz1
  clear hQ
  refine ⟨?_, ?_, ?_, ?_, ?_, ?_, ?_, ?_, ?_, ?_, ?_, ?_, ?_, ?_, ?_, ?_, trivial⟩
  · intro l a wr h0 hd hI
    revert h0 hd
    refine QT_elim _ _ _ _ _ _ _ _ _ _ _ _ _ _ _ _ _ _ _ _ _ _ _ _ _ _ _ _ _ _ _ _ _ _ _ _ _ _ _ _ _ _ _ _ _ _ _ _ _ _ _ _ _ _ _ _ _ _ _ _ _ _ _ _ _ _ _ _ _ _ _ _ _ _ _ _ _ _ _ _ _ _ _ _ _ hI ?_
    clear hI
    intro b0 b1 b2 b3 b4 b5 b6 b7 b8 b9 b10 b11 b12 b13 b14 b15 v0 v1 v2 v3 v4 v5 vc vm e0 e1 e2 y0 y1 z0 g0 g1 q1 cq1
    intro hl ha XB X0 X1 X2 X3 X4 X5 X6 X7 X8 X9 X10 X11 X12 X13 X14 X15 D01
    subst hl ha
    intro h0 hd K hK
    have h0 : b0 = false := h0
    subst h0
    have ct := cell_of_block (keepb A9.out XB.out)
    go_simp
    exact hK _ _ ⟨true, b1, b2, b3, b4, b5, b6, b7, b8, b9, b10, b11, b12, b13, b14, b15, .agg #[.int .i64 n', .slice p1 l'.length cap1, .int .i64 c', .int .i64 a'], v1, v2, v3, v4, v5, vc, vm, e0, e1, e2, y0, y1, z0, g0, g1, q1, cq1, rfl, rfl, XB, Lib.hid (fun _ => rfl), X1, X2, X3, X4, X5, X6, X7, X8, X9, X10, X11, X12, X13, X14, X15, D01⟩
  · intro l a wr h0 hd hI
    revert h0 hd
    refine QT_elim _ _ _ _ _ _ _ _ _ _ _ _ _ _ _ _ _ _ _ _ _ _ _ _ _ _ _ _ _ _ _ _ _ _ _ _ _ _ _ _ _ _ _ _ _ _ _ _ _ _ _ _ _ _ _ _ _ _ _ _ _ _ _ _ _ _ _ _ _ _ _ _ _ _ _ _ _ _ _ _ _ _ _ _ _ hI ?_
    clear hI
    intro b0 b1 b2 b3 b4 b5 b6 b7 b8 b9 b10 b11 b12 b13 b14 b15 v0 v1 v2 v3 v4 v5 vc vm e0 e1 e2 y0 y1 z0 g0 g1 q1 cq1
    intro hl ha XB X0 X1 X2 X3 X4 X5 X6 X7 X8 X9 X10 X11 X12 X13 X14 X15 D01
    subst hl ha
    intro h0 hd K hK
    have h0 : b1 = false := h0
    subst h0
    go_simp
    exact hK _ _ ⟨b0, true, b2, b3, b4, b5, b6, b7, b8, b9, b10, b11, b12, b13, b14, b15, v0, .slice (some ⟨bd, od, none⟩) D.length capd, v2, v3, v4, v5, vc, vm, e0, e1, e2, y0, y1, z0, g0, g1, q1, cq1, rfl, rfl, XB, X0, Lib.hid (fun _ => rfl), X2, X3, X4, X5, X6, X7, X8, X9, X10, X11, X12, X13, X14, X15, D01⟩
  · intro l a wr h0 hd hI
    revert h0 hd
    refine QT_elim _ _ _ _ _ _ _ _ _ _ _ _ _ _ _ _ _ _ _ _ _ _ _ _ _ _ _ _ _ _ _ _ _ _ _ _ _ _ _ _ _ _ _ _ _ _ _ _ _ _ _ _ _ _ _ _ _ _ _ _ _ _ _ _ _ _ _ _ _ _ _ _ _ _ _ _ _ _ _ _ _ _ _ _ _ hI ?_
    clear hI
    intro b0 b1 b2 b3 b4 b5 b6 b7 b8 b9 b10 b11 b12 b13 b14 b15 v0 v1 v2 v3 v4 v5 vc vm e0 e1 e2 y0 y1 z0 g0 g1 q1 cq1
    intro hl ha XB X0 X1 X2 X3 X4 X5 X6 X7 X8 X9 X10 X11 X12 X13 X14 X15 D01
    subst hl ha
    intro h0 hd K hK
    have h0 : b2 = false := h0
    subst h0
    go_simp
    exact hK _ _ ⟨b0, b1, true, b3, b4, b5, b6, b7, b8, b9, b10, b11, b12, b13, b14, b15, v0, v1, .int .i64 k, v3, v4, v5, vc, vm, e0, e1, e2, y0, y1, z0, g0, g1, q1, cq1, rfl, rfl, XB, X0, X1, Lib.hid (fun _ => rfl), X3, X4, X5, X6, X7, X8, X9, X10, X11, X12, X13, X14, X15, D01⟩
  · intro l a wr h0 hd hI
    revert h0 hd
    refine QT_elim _ _ _ _ _ _ _ _ _ _ _ _ _ _ _ _ _ _ _ _ _ _ _ _ _ _ _ _ _ _ _ _ _ _ _ _ _ _ _ _ _ _ _ _ _ _ _ _ _ _ _ _ _ _ _ _ _ _ _ _ _ _ _ _ _ _ _ _ _ _ _ _ _ _ _ _ _ _ _ _ _ _ _ _ _ hI ?_
    clear hI
    intro b0 b1 b2 b3 b4 b5 b6 b7 b8 b9 b10 b11 b12 b13 b14 b15 v0 v1 v2 v3 v4 v5 vc vm e0 e1 e2 y0 y1 z0 g0 g1 q1 cq1
    intro hl ha XB X0 X1 X2 X3 X4 X5 X6 X7 X8 X9 X10 X11 X12 X13 X14 X15 D01
    subst hl ha
    intro h0 hd K hK
    have h0 : b3 = false := h0
    subst h0
    obtain ⟨d0, d1, -⟩ := (hd : UpAll _ [1, 2])
    replace d0 : b1 = true := d0
    replace d1 : b2 = true := d1
    subst d0
    subst d1
    have q1 := X1.out rfl
    have q2 := X2.out rfl
    subst q1 q2
    go_simp
    exact hK _ _ ⟨b0, true, true, true, b4, b5, b6, b7, b8, b9, b10, b11, b12, b13, b14, b15, v0, .slice (some ⟨bd, od, none⟩) D.length capd, .int .i64 k, .pointer (some ⟨bd, od + k, none⟩), v4, v5, vc, vm, e0, e1, e2, y0, y1, z0, g0, g1, q1, cq1, rfl, rfl, XB, X0, X1, X2, Lib.hid (fun _ => rfl), X4, X5, X6, X7, X8, X9, X10, X11, X12, X13, X14, X15, D01⟩
  · intro l a wr h0 hd hI
    revert h0 hd
    refine QT_elim _ _ _ _ _ _ _ _ _ _ _ _ _ _ _ _ _ _ _ _ _ _ _ _ _ _ _ _ _ _ _ _ _ _ _ _ _ _ _ _ _ _ _ _ _ _ _ _ _ _ _ _ _ _ _ _ _ _ _ _ _ _ _ _ _ _ _ _ _ _ _ _ _ _ _ _ _ _ _ _ _ _ _ _ _ hI ?_
    clear hI
    intro b0 b1 b2 b3 b4 b5 b6 b7 b8 b9 b10 b11 b12 b13 b14 b15 v0 v1 v2 v3 v4 v5 vc vm e0 e1 e2 y0 y1 z0 g0 g1 q1 cq1
    intro hl ha XB X0 X1 X2 X3 X4 X5 X6 X7 X8 X9 X10 X11 X12 X13 X14 X15 D01
    subst hl ha
    intro h0 hd K hK
    have h0 : b4 = false := h0
    subst h0
    obtain ⟨d0, -⟩ := (hd : UpAll _ [3])
    replace d0 : b3 = true := d0
    subst d0
    have q3 := X3.out rfl
    subst q3
    obtain ⟨_, _, e9, hcell⟩ := (HI.out.keep XB.out).atp k hlt
    cases e9
    rw [← HXx.out] at hcell
    go_simp
    exact hK _ _ ⟨b0, b1, b2, true, true, b5, b6, b7, b8, b9, b10, b11, b12, b13, b14, b15, v0, v1, v2, .pointer (some ⟨bd, od + k, none⟩), .int .i64 x, v5, vc, vm, e0, e1, e2, y0, y1, z0, g0, g1, q1, cq1, rfl, rfl, XB, X0, X1, X2, X3, Lib.hid (fun _ => rfl), X5, X6, X7, X8, X9, X10, X11, X12, X13, X14, X15, D01⟩
  · intro l a wr h0 hd hI
    revert h0 hd
    refine QT_elim _ _ _ _ _ _ _ _ _ _ _ _ _ _ _ _ _ _ _ _ _ _ _ _ _ _ _ _ _ _ _ _ _ _ _ _ _ _ _ _ _ _ _ _ _ _ _ _ _ _ _ _ _ _ _ _ _ _ _ _ _ _ _ _ _ _ _ _ _ _ _ _ _ _ _ _ _ _ _ _ _ _ _ _ _ hI ?_
    clear hI
    intro b0 b1 b2 b3 b4 b5 b6 b7 b8 b9 b10 b11 b12 b13 b14 b15 v0 v1 v2 v3 v4 v5 vc vm e0 e1 e2 y0 y1 z0 g0 g1 q1 cq1
    intro hl ha XB X0 X1 X2 X3 X4 X5 X6 X7 X8 X9 X10 X11 X12 X13 X14 X15 D01
    subst hl ha
    intro h0 hd K hK
    have h0 : b5 = false := h0
    subst h0
    go_simp
    exact hK _ _ ⟨b0, b1, b2, b3, b4, true, b6, b7, b8, b9, b10, b11, b12, b13, b14, b15, v0, v1, v2, v3, v4, .int .i64 now, vc, vm, e0, e1, e2, y0, y1, z0, g0, g1, q1, cq1, rfl, rfl, XB, X0, X1, X2, X3, X4, Lib.hid (fun _ => rfl), X6, X7, X8, X9, X10, X11, X12, X13, X14, X15, D01⟩
  · intro l a wr h0 hd hI
    revert h0 hd
    refine QT_elim _ _ _ _ _ _ _ _ _ _ _ _ _ _ _ _ _ _ _ _ _ _ _ _ _ _ _ _ _ _ _ _ _ _ _ _ _ _ _ _ _ _ _ _ _ _ _ _ _ _ _ _ _ _ _ _ _ _ _ _ _ _ _ _ _ _ _ _ _ _ _ _ _ _ _ _ _ _ _ _ _ _ _ _ _ hI ?_
    clear hI
    intro b0 b1 b2 b3 b4 b5 b6 b7 b8 b9 b10 b11 b12 b13 b14 b15 v0 v1 v2 v3 v4 v5 vc vm e0 e1 e2 y0 y1 z0 g0 g1 q1 cq1
    intro hl ha XB X0 X1 X2 X3 X4 X5 X6 X7 X8 X9 X10 X11 X12 X13 X14 X15 D01
    subst hl ha
    intro h0 hd K hK
    have h0 : b6 = false := h0
    subst h0
    obtain ⟨d0, d1, d2, -⟩ := (hd : UpAll _ [0, 4, 5])
    replace d0 : b0 = true := d0
    replace d1 : b4 = true := d1
    replace d2 : b5 = true := d2
    subst d0
    subst d1
    subst d2
    have q0 := X0.out rfl
    subst q0
    have q4 := X4.out rfl
    subst q4
    have q5 := X5.out rfl
    subst q5
    go_simp
    go_at_call 63
    refine (HSt.out _ XB.out).mono ?_
    rintro e wz ⟨q11, cq11, rfl, OQ1, B⟩
    have hb7 : b7 = false := by cases b7; rfl; cases (X7.out rfl).1
    subst hb7
    have hb8 : b8 = false := by cases b8; rfl; cases (X8.out rfl).1
    subst hb8
    have hb9 : b9 = false := by cases b9; rfl; cases (X9.out rfl).1
    subst hb9
    have hb10 : b10 = false := by cases b10; rfl; cases (X10.out rfl).1
    subst hb10
    have hb15 : b15 = false := by cases b15; rfl; cases (X15.out rfl).1
    subst hb15
    have HNb := Lib.hid (show ∀ b, (Value.slice q11 S'.fl.length cq11).ownBlock = some b → wr.heap.size ≤ b ∧ b < wz.heap.size from fun b hb => ⟨OQ1.out.block b hb, OQ1.out.lt b hb⟩)
    go_simp
    exact hK _ _ ⟨true, b1, b2, b3, true, true, true, false, false, false, false, b11, b12, b13, b14, false, .agg #[.int .i64 n', .slice p1 l'.length cap1, .int .i64 c', .int .i64 a'], v1, v2, v3, .int .i64 x, .int .i64 now, .tuple #[.agg #[.int .i64 S'.next, .slice q11 S'.fl.length cq11, .int .i64 S'.cwnd, .int .i64 S'.acc], .agg #[.int .i64 f.seq, .int .i64 f.note.user, .int .i64 f.note.ver, .int .i64 f.note.stat, .int .i64 f.note.cnt, .int .i64 f.at_, .int .i64 f.tries], .bool ok], vm, e0, e1, e2, y0, y1, z0, g0, g1, q11, cq11, rfl, rfl, Lib.hid (chain XB.out B.out), X0, X1, X2, X3, X4, X5, Lib.hid (fun _ => ⟨rfl, OQ1.out.mono XB.out.size, fun b hb => ⟨by have := (HNb.out b hb).1; have := XB.out.size; omega, (HNb.out b hb).2⟩⟩), Lib.hid (fun e => by cases e), Lib.hid (fun e => by cases e), Lib.hid (fun e => by cases e), Lib.hid (fun e => by cases e), Lib.hid (fun e => ⟨(X11.out e).1, (X11.out e).2.born B.out (fun b hb => (HNb.out b hb).1)⟩), Lib.hid (fun e => ⟨(X12.out e).1, (X12.out e).2.born B.out (fun b hb => (HNb.out b hb).1)⟩), X13, X14, Lib.hid (fun e => by cases e), D01⟩
  · intro l a wr h0 hd hI
    revert h0 hd
    refine QT_elim _ _ _ _ _ _ _ _ _ _ _ _ _ _ _ _ _ _ _ _ _ _ _ _ _ _ _ _ _ _ _ _ _ _ _ _ _ _ _ _ _ _ _ _ _ _ _ _ _ _ _ _ _ _ _ _ _ _ _ _ _ _ _ _ _ _ _ _ _ _ _ _ _ _ _ _ _ _ _ _ _ _ _ _ _ hI ?_
    clear hI
    intro b0 b1 b2 b3 b4 b5 b6 b7 b8 b9 b10 b11 b12 b13 b14 b15 v0 v1 v2 v3 v4 v5 vc vm e0 e1 e2 y0 y1 z0 g0 g1 q1 cq1
    intro hl ha XB X0 X1 X2 X3 X4 X5 X6 X7 X8 X9 X10 X11 X12 X13 X14 X15 D01
    subst hl ha
    intro h0 hd K hK
    have h0 : b7 = false := h0
    subst h0
    obtain ⟨d0, -⟩ := (hd : UpAll _ [6])
    replace d0 : b6 = true := d0
    subst d0
    have q := (X6.out rfl).1
    subst q
    go_simp
    exact hK _ _ ⟨b0, b1, b2, b3, b4, b5, true, true, b8, b9, b10, b11, b12, b13, b14, b15, v0, v1, v2, v3, v4, v5, .tuple #[.agg #[.int .i64 S'.next, .slice q1 S'.fl.length cq1, .int .i64 S'.cwnd, .int .i64 S'.acc], .agg #[.int .i64 f.seq, .int .i64 f.note.user, .int .i64 f.note.ver, .int .i64 f.note.stat, .int .i64 f.note.cnt, .int .i64 f.at_, .int .i64 f.tries], .bool ok], .tuple #[.agg #[.int .i64 S'.next, .slice q1 S'.fl.length cq1, .int .i64 S'.cwnd, .int .i64 S'.acc], .agg #[.int .i64 f.seq, .int .i64 f.note.user, .int .i64 f.note.ver, .int .i64 f.note.stat, .int .i64 f.note.cnt, .int .i64 f.at_, .int .i64 f.tries], .bool ok], e0, e1, e2, y0, y1, z0, g0, g1, q1, cq1, rfl, rfl, XB, X0, X1, X2, X3, X4, X5, X6, Lib.hid (fun _ => ⟨rfl, rfl⟩), X8, X9, X10, X11, X12, X13, X14, X15, D01⟩
  · intro l a wr h0 hd hI
    revert h0 hd
    refine QT_elim _ _ _ _ _ _ _ _ _ _ _ _ _ _ _ _ _ _ _ _ _ _ _ _ _ _ _ _ _ _ _ _ _ _ _ _ _ _ _ _ _ _ _ _ _ _ _ _ _ _ _ _ _ _ _ _ _ _ _ _ _ _ _ _ _ _ _ _ _ _ _ _ _ _ _ _ _ _ _ _ _ _ _ _ _ hI ?_
    clear hI
    intro b0 b1 b2 b3 b4 b5 b6 b7 b8 b9 b10 b11 b12 b13 b14 b15 v0 v1 v2 v3 v4 v5 vc vm e0 e1 e2 y0 y1 z0 g0 g1 q1 cq1
    intro hl ha XB X0 X1 X2 X3 X4 X5 X6 X7 X8 X9 X10 X11 X12 X13 X14 X15 D01
    subst hl ha
    intro h0 hd K hK
    have h0 : b8 = false := h0
    subst h0
    obtain ⟨d0, -⟩ := (hd : UpAll _ [7])
    replace d0 : b7 = true := d0
    subst d0
    obtain ⟨qc, q⟩ := X7.out rfl
    subst qc q
    go_simp
    exact hK _ _ ⟨b0, b1, b2, b3, b4, b5, true, true, true, b9, b10, b11, b12, b13, b14, b15, v0, v1, v2, v3, v4, v5, vc, .tuple #[.agg #[.int .i64 S'.next, .slice q1 S'.fl.length cq1, .int .i64 S'.cwnd, .int .i64 S'.acc], .agg #[.int .i64 f.seq, .int .i64 f.note.user, .int .i64 f.note.ver, .int .i64 f.note.stat, .int .i64 f.note.cnt, .int .i64 f.at_, .int .i64 f.tries], .bool ok], .agg #[.int .i64 S'.next, .slice q1 S'.fl.length cq1, .int .i64 S'.cwnd, .int .i64 S'.acc], e1, e2, y0, y1, z0, g0, g1, q1, cq1, rfl, rfl, XB, X0, X1, X2, X3, X4, X5, X6, X7, Lib.hid (fun _ => ⟨rfl, rfl⟩), X9, X10, X11, X12, X13, X14, X15, D01⟩
  · intro l a wr h0 hd hI
    revert h0 hd
    refine QT_elim _ _ _ _ _ _ _ _ _ _ _ _ _ _ _ _ _ _ _ _ _ _ _ _ _ _ _ _ _ _ _ _ _ _ _ _ _ _ _ _ _ _ _ _ _ _ _ _ _ _ _ _ _ _ _ _ _ _ _ _ _ _ _ _ _ _ _ _ _ _ _ _ _ _ _ _ _ _ _ _ _ _ _ _ _ hI ?_
    clear hI
    intro b0 b1 b2 b3 b4 b5 b6 b7 b8 b9 b10 b11 b12 b13 b14 b15 v0 v1 v2 v3 v4 v5 vc vm e0 e1 e2 y0 y1 z0 g0 g1 q1 cq1
    intro hl ha XB X0 X1 X2 X3 X4 X5 X6 X7 X8 X9 X10 X11 X12 X13 X14 X15 D01
    subst hl ha
    intro h0 hd K hK
    have h0 : b9 = false := h0
    subst h0
    obtain ⟨d0, -⟩ := (hd : UpAll _ [7])
    replace d0 : b7 = true := d0
    subst d0
    obtain ⟨qc, q⟩ := X7.out rfl
    subst qc q
    go_simp
    exact hK _ _ ⟨b0, b1, b2, b3, b4, b5, true, true, b8, true, b10, b11, b12, b13, b14, b15, v0, v1, v2, v3, v4, v5, vc, .tuple #[.agg #[.int .i64 S'.next, .slice q1 S'.fl.length cq1, .int .i64 S'.cwnd, .int .i64 S'.acc], .agg #[.int .i64 f.seq, .int .i64 f.note.user, .int .i64 f.note.ver, .int .i64 f.note.stat, .int .i64 f.note.cnt, .int .i64 f.at_, .int .i64 f.tries], .bool ok], e0, .agg #[.int .i64 f.seq, .int .i64 f.note.user, .int .i64 f.note.ver, .int .i64 f.note.stat, .int .i64 f.note.cnt, .int .i64 f.at_, .int .i64 f.tries], e2, y0, y1, z0, g0, g1, q1, cq1, rfl, rfl, XB, X0, X1, X2, X3, X4, X5, X6, X7, X8, Lib.hid (fun _ => ⟨rfl, rfl⟩), X10, X11, X12, X13, X14, X15, D01⟩
  · intro l a wr h0 hd hI
    revert h0 hd
    refine QT_elim _ _ _ _ _ _ _ _ _ _ _ _ _ _ _ _ _ _ _ _ _ _ _ _ _ _ _ _ _ _ _ _ _ _ _ _ _ _ _ _ _ _ _ _ _ _ _ _ _ _ _ _ _ _ _ _ _ _ _ _ _ _ _ _ _ _ _ _ _ _ _ _ _ _ _ _ _ _ _ _ _ _ _ _ _ hI ?_
    clear hI
    intro b0 b1 b2 b3 b4 b5 b6 b7 b8 b9 b10 b11 b12 b13 b14 b15 v0 v1 v2 v3 v4 v5 vc vm e0 e1 e2 y0 y1 z0 g0 g1 q1 cq1
    intro hl ha XB X0 X1 X2 X3 X4 X5 X6 X7 X8 X9 X10 X11 X12 X13 X14 X15 D01
    subst hl ha
    intro h0 hd K hK
    have h0 : b10 = false := h0
    subst h0
    obtain ⟨d0, -⟩ := (hd : UpAll _ [7])
    replace d0 : b7 = true := d0
    subst d0
    obtain ⟨qc, q⟩ := X7.out rfl
    subst qc q
    go_simp
    exact hK _ _ ⟨b0, b1, b2, b3, b4, b5, true, true, b8, b9, true, b11, b12, b13, b14, b15, v0, v1, v2, v3, v4, v5, vc, .tuple #[.agg #[.int .i64 S'.next, .slice q1 S'.fl.length cq1, .int .i64 S'.cwnd, .int .i64 S'.acc], .agg #[.int .i64 f.seq, .int .i64 f.note.user, .int .i64 f.note.ver, .int .i64 f.note.stat, .int .i64 f.note.cnt, .int .i64 f.at_, .int .i64 f.tries], .bool ok], e0, e1, .bool ok, y0, y1, z0, g0, g1, q1, cq1, rfl, rfl, XB, X0, X1, X2, X3, X4, X5, X6, X7, X8, X9, Lib.hid (fun _ => ⟨rfl, rfl⟩), X11, X12, X13, X14, X15, D01⟩
  · intro l a wr h0 hd hI
    revert h0 hd
    refine QT_elim _ _ _ _ _ _ _ _ _ _ _ _ _ _ _ _ _ _ _ _ _ _ _ _ _ _ _ _ _ _ _ _ _ _ _ _ _ _ _ _ _ _ _ _ _ _ _ _ _ _ _ _ _ _ _ _ _ _ _ _ _ _ _ _ _ _ _ _ _ _ _ _ _ _ _ _ _ _ _ _ _ _ _ _ _ hI ?_
    clear hI
    intro b0 b1 b2 b3 b4 b5 b6 b7 b8 b9 b10 b11 b12 b13 b14 b15 v0 v1 v2 v3 v4 v5 vc vm e0 e1 e2 y0 y1 z0 g0 g1 q1 cq1
    intro hl ha XB X0 X1 X2 X3 X4 X5 X6 X7 X8 X9 X10 X11 X12 X13 X14 X15 D01
    subst hl ha
    intro h0 hd K hK
    have h0 : b11 = false := h0
    subst h0
    have hst : b13 = false := by cases b13; rfl; cases X13.out rfl
    subst hst
    go_simp
    exact hK _ _ ⟨b0, b1, b2, b3, b4, b5, b6, b7, b8, b9, b10, true, b12, false, b14, b15, v0, v1, v2, v3, v4, v5, vc, vm, e0, e1, e2, .pointer (some ⟨wr.heap.size, 0, none⟩), y1, z0, wr.heap.size, g1, q1, cq1, rfl, rfl, Lib.hid (chain XB.out (below_alloc wr _)), X0, X1, X2, X3, X4, X5, Lib.hid (fun e => ⟨(X6.out e).1, ((X6.out e).2.1).keep (below_alloc wr _), fun b hb => ⟨((X6.out e).2.2 b hb).1, Nat.lt_of_lt_of_le ((X6.out e).2.2 b hb).2 (below_alloc wr _).size⟩⟩), X7, X8, X9, X10, Lib.hid (fun _ => ⟨rfl, Bq.new XB.out.size (fun e b hb => ((X6.out e).2.2 b hb).2)⟩), Lib.hid (fun e => ⟨(X12.out e).1, (X12.out e).2.keep (below_alloc wr _)⟩), Lib.hid (fun e => by cases e), X14, X15, Lib.hid (fun _ e he => by have := (X12.out e).2.2.1; omega)⟩
  · intro l a wr h0 hd hI
    revert h0 hd
    refine QT_elim _ _ _ _ _ _ _ _ _ _ _ _ _ _ _ _ _ _ _ _ _ _ _ _ _ _ _ _ _ _ _ _ _ _ _ _ _ _ _ _ _ _ _ _ _ _ _ _ _ _ _ _ _ _ _ _ _ _ _ _ _ _ _ _ _ _ _ _ _ _ _ _ _ _ _ _ _ _ _ _ _ _ _ _ _ hI ?_
    clear hI
    intro b0 b1 b2 b3 b4 b5 b6 b7 b8 b9 b10 b11 b12 b13 b14 b15 v0 v1 v2 v3 v4 v5 vc vm e0 e1 e2 y0 y1 z0 g0 g1 q1 cq1
    intro hl ha XB X0 X1 X2 X3 X4 X5 X6 X7 X8 X9 X10 X11 X12 X13 X14 X15 D01
    subst hl ha
    intro h0 hd K hK
    have h0 : b12 = false := h0
    subst h0
    have hst : b14 = false := by cases b14; rfl; cases X14.out rfl
    subst hst
    go_simp
    exact hK _ _ ⟨b0, b1, b2, b3, b4, b5, b6, b7, b8, b9, b10, b11, true, b13, false, b15, v0, v1, v2, v3, v4, v5, vc, vm, e0, e1, e2, y0, .pointer (some ⟨wr.heap.size, 0, none⟩), z0, g0, wr.heap.size, q1, cq1, rfl, rfl, Lib.hid (chain XB.out (below_alloc wr _)), X0, X1, X2, X3, X4, X5, Lib.hid (fun e => ⟨(X6.out e).1, ((X6.out e).2.1).keep (below_alloc wr _), fun b hb => ⟨((X6.out e).2.2 b hb).1, Nat.lt_of_lt_of_le ((X6.out e).2.2 b hb).2 (below_alloc wr _).size⟩⟩), X7, X8, X9, X10, Lib.hid (fun e => ⟨(X11.out e).1, (X11.out e).2.keep (below_alloc wr _)⟩), Lib.hid (fun _ => ⟨rfl, Bq.new XB.out.size (fun e b hb => ((X6.out e).2.2 b hb).2)⟩), X13, Lib.hid (fun e => by cases e), X15, Lib.hid (fun e _ he => by have := (X11.out e).2.2.1; omega)⟩
  · intro l a wr h0 hd hI
    revert h0 hd
    refine QT_elim _ _ _ _ _ _ _ _ _ _ _ _ _ _ _ _ _ _ _ _ _ _ _ _ _ _ _ _ _ _ _ _ _ _ _ _ _ _ _ _ _ _ _ _ _ _ _ _ _ _ _ _ _ _ _ _ _ _ _ _ _ _ _ _ _ _ _ _ _ _ _ _ _ _ _ _ _ _ _ _ _ _ _ _ _ hI ?_
    clear hI
    intro b0 b1 b2 b3 b4 b5 b6 b7 b8 b9 b10 b11 b12 b13 b14 b15 v0 v1 v2 v3 v4 v5 vc vm e0 e1 e2 y0 y1 z0 g0 g1 q1 cq1
    intro hl ha XB X0 X1 X2 X3 X4 X5 X6 X7 X8 X9 X10 X11 X12 X13 X14 X15 D01
    subst hl ha
    intro h0 hd K hK
    have h0 : b13 = false := h0
    subst h0
    obtain ⟨d0, d1, d2, d3, d4, d5, d6, d7, d8, d9, d10, d11, d12, d13, -⟩ := (hd : UpAll _ [11, 8, 6, 0, 1, 2, 3, 4, 5, 6, 7, 8, 11, 12])
    replace d0 : b11 = true := d0
    replace d1 : b8 = true := d1
    replace d2 : b6 = true := d2
    replace d3 : b0 = true := d3
    replace d4 : b1 = true := d4
    replace d5 : b2 = true := d5
    replace d6 : b3 = true := d6
    replace d7 : b4 = true := d7
    replace d8 : b5 = true := d8
    replace d10 : b7 = true := d10
    replace d13 : b12 = true := d13
    subst d0
    subst d1
    subst d2
    subst d3
    subst d4
    subst d5
    subst d6
    subst d7
    subst d8
    clear d9
    subst d10
    clear d11
    clear d12
    subst d13
    obtain ⟨-, q4⟩ := X8.out rfl
    subst q4
    obtain ⟨q7, hbx⟩ := X11.out rfl
    subst q7
    have HBX := Lib.hid hbx
    have HZ := Lib.hid (hbx.2.2.1 rfl)
    have hlt := hbx.1
    clear hbx
    have cz := cell_of_block HZ.out
    have fz := frozen_of_block HZ.out
    go_simp
    exact hK _ _ ⟨true, true, true, true, true, true, true, true, true, b9, b10, true, true, true, b14, b15, v0, v1, v2, v3, v4, v5, vc, vm, .agg #[.int .i64 S'.next, .slice q1 S'.fl.length cq1, .int .i64 S'.cwnd, .int .i64 S'.acc], e1, e2, .pointer (some ⟨g0, 0, none⟩), y1, z0, g0, g1, q1, cq1, rfl, rfl, Lib.hid (by have hb0 := HBX.out.1; repeat (first | (with_reducible exact XB.out) | (with_reducible refine bel_set (by first | omega | (simp; omega)) ?_))), X0, X1, X2, X3, X4, X5, Lib.hid (fun e => ⟨(X6.out e).1, Own.only ((X6.out e).2.1) (by repeat (first | (with_reducible exact Only.refl _ _) | (with_reducible refine Only.set ?_ _ _))) (fun e' => (HBX.out.2.2.2.2 e) e'), fun b hb => ⟨((X6.out e).2.2 b hb).1, by have := ((X6.out e).2.2 b hb).2; simpa using this⟩⟩), X7, X8, X9, X10, Lib.hid (fun _ => ⟨rfl, HBX.out.fill (by repeat (first | (with_reducible exact Only.refl _ _) | (with_reducible refine Only.set ?_ _ _))) (by simp [World.setCell, Array.getElem?_modify, HZ.out])⟩), Lib.hid (fun e => ⟨(X12.out e).1, (X12.out e).2.only (by repeat (first | (with_reducible exact Only.refl _ _) | (with_reducible refine Only.set ?_ _ _))) (D01.out rfl e).symm⟩), Lib.hid (fun _ => rfl), X14, X15, D01⟩
  · intro l a wr h0 hd hI
    revert h0 hd
    refine QT_elim _ _ _ _ _ _ _ _ _ _ _ _ _ _ _ _ _ _ _ _ _ _ _ _ _ _ _ _ _ _ _ _ _ _ _ _ _ _ _ _ _ _ _ _ _ _ _ _ _ _ _ _ _ _ _ _ _ _ _ _ _ _ _ _ _ _ _ _ _ _ _ _ _ _ _ _ _ _ _ _ _ _ _ _ _ hI ?_
    clear hI
    intro b0 b1 b2 b3 b4 b5 b6 b7 b8 b9 b10 b11 b12 b13 b14 b15 v0 v1 v2 v3 v4 v5 vc vm e0 e1 e2 y0 y1 z0 g0 g1 q1 cq1
    intro hl ha XB X0 X1 X2 X3 X4 X5 X6 X7 X8 X9 X10 X11 X12 X13 X14 X15 D01
    subst hl ha
    intro h0 hd K hK
    have h0 : b14 = false := h0
    subst h0
    obtain ⟨d0, d1, d2, d3, d4, d5, d6, d7, d8, d9, d10, d11, d12, d13, d14, d15, -⟩ := (hd : UpAll _ [12, 9, 13, 0, 1, 2, 3, 4, 5, 6, 7, 8, 9, 11, 12, 13])
    replace d0 : b12 = true := d0
    replace d1 : b9 = true := d1
    replace d2 : b13 = true := d2
    replace d3 : b0 = true := d3
    replace d4 : b1 = true := d4
    replace d5 : b2 = true := d5
    replace d6 : b3 = true := d6
    replace d7 : b4 = true := d7
    replace d8 : b5 = true := d8
    replace d9 : b6 = true := d9
    replace d10 : b7 = true := d10
    replace d11 : b8 = true := d11
    replace d13 : b11 = true := d13
    subst d0
    subst d1
    subst d2
    subst d3
    subst d4
    subst d5
    subst d6
    subst d7
    subst d8
    subst d9
    subst d10
    subst d11
    clear d12
    subst d13
    clear d14
    clear d15
    obtain ⟨-, q4⟩ := X9.out rfl
    subst q4
    obtain ⟨q7, hbx⟩ := X12.out rfl
    subst q7
    have HBX := Lib.hid hbx
    have HZ := Lib.hid (hbx.2.2.1 rfl)
    have hlt := hbx.1
    clear hbx
    have cz := cell_of_block HZ.out
    have fz := frozen_of_block HZ.out
    go_simp
    exact hK _ _ ⟨true, true, true, true, true, true, true, true, true, true, b10, true, true, true, true, b15, v0, v1, v2, v3, v4, v5, vc, vm, e0, .agg #[.int .i64 f.seq, .int .i64 f.note.user, .int .i64 f.note.ver, .int .i64 f.note.stat, .int .i64 f.note.cnt, .int .i64 f.at_, .int .i64 f.tries], e2, y0, .pointer (some ⟨g1, 0, none⟩), z0, g0, g1, q1, cq1, rfl, rfl, Lib.hid (by have hb0 := HBX.out.1; repeat (first | (with_reducible exact XB.out) | (with_reducible refine bel_set (by first | omega | (simp; omega)) ?_))), X0, X1, X2, X3, X4, X5, Lib.hid (fun e => ⟨(X6.out e).1, Own.only ((X6.out e).2.1) (by repeat (first | (with_reducible exact Only.refl _ _) | (with_reducible refine Only.set ?_ _ _))) (fun e' => (HBX.out.2.2.2.2 e) e'), fun b hb => ⟨((X6.out e).2.2 b hb).1, by have := ((X6.out e).2.2 b hb).2; simpa using this⟩⟩), X7, X8, X9, X10, Lib.hid (fun e => ⟨(X11.out e).1, (X11.out e).2.only (by repeat (first | (with_reducible exact Only.refl _ _) | (with_reducible refine Only.set ?_ _ _))) (D01.out e rfl)⟩), Lib.hid (fun _ => ⟨rfl, HBX.out.fill (by repeat (first | (with_reducible exact Only.refl _ _) | (with_reducible refine Only.set ?_ _ _))) (by simp [World.setCell, Array.getElem?_modify, HZ.out])⟩), X13, Lib.hid (fun _ => rfl), X15, D01⟩
  · intro l a wr h0 hd hI
    revert h0 hd
    refine QT_elim _ _ _ _ _ _ _ _ _ _ _ _ _ _ _ _ _ _ _ _ _ _ _ _ _ _ _ _ _ _ _ _ _ _ _ _ _ _ _ _ _ _ _ _ _ _ _ _ _ _ _ _ _ _ _ _ _ _ _ _ _ _ _ _ _ _ _ _ _ _ _ _ _ _ _ _ _ _ _ _ _ _ _ _ _ hI ?_
    clear hI
    intro b0 b1 b2 b3 b4 b5 b6 b7 b8 b9 b10 b11 b12 b13 b14 b15 v0 v1 v2 v3 v4 v5 vc vm e0 e1 e2 y0 y1 z0 g0 g1 q1 cq1
    intro hl ha XB X0 X1 X2 X3 X4 X5 X6 X7 X8 X9 X10 X11 X12 X13 X14 X15 D01
    subst hl ha
    intro h0 hd K hK
    have h0 : b15 = false := h0
    subst h0
    obtain ⟨d0, d1, d2, d3, d4, d5, d6, d7, d8, d9, d10, d11, d12, d13, d14, d15, d16, -⟩ := (hd : UpAll _ [10, 14, 0, 1, 2, 3, 4, 5, 6, 7, 8, 9, 10, 11, 12, 13, 14])
    replace d0 : b10 = true := d0
    replace d1 : b14 = true := d1
    replace d2 : b0 = true := d2
    replace d3 : b1 = true := d3
    replace d4 : b2 = true := d4
    replace d5 : b3 = true := d5
    replace d6 : b4 = true := d6
    replace d7 : b5 = true := d7
    replace d8 : b6 = true := d8
    replace d9 : b7 = true := d9
    replace d10 : b8 = true := d10
    replace d11 : b9 = true := d11
    replace d13 : b11 = true := d13
    replace d14 : b12 = true := d14
    replace d15 : b13 = true := d15
    subst d0
    subst d1
    subst d2
    subst d3
    subst d4
    subst d5
    subst d6
    subst d7
    subst d8
    subst d9
    subst d10
    subst d11
    clear d12
    subst d13
    subst d14
    subst d15
    clear d16
    obtain ⟨qc, q6⟩ := X10.out rfl
    subst q6
    go_simp
    exact hK _ _ ⟨true, true, true, true, true, true, true, true, true, true, true, true, true, true, true, true, v0, v1, v2, v3, v4, v5, vc, vm, e0, e1, .bool ok, y0, y1, .bool ok, g0, g1, q1, cq1, rfl, rfl, XB, X0, X1, X2, X3, X4, X5, X6, X7, X8, X9, X10, X11, X12, X13, X14, Lib.hid (fun _ => ⟨rfl, rfl⟩), D01⟩
end Go.Proofs.Yteilgibfmljoeaa.K
