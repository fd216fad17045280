/-
  A WHOLE SESSION LOADED IN A REGION THAT DRAWS ITS ORDER.
-/
import Derived.Test.YtlmkkfigmoefdaaSesMem
import Derived.Lib.QuietBelow
import Derived.BigQuiet
set_option linter.unusedVariables false
set_option linter.unusedSimpArgs false
namespace Go.Proofs.Ytlmkkfigmoefdaa.K
open Go Go.RowKit Nj
/-- THE WALK's STEP: a whole session is loaded, in whatever world came out of w by draws and new blocks -/
theorem quiet_ld {o : Oper} {a : Act} {w : World} {K : Act → Prop} {p : Operand} {b off : Nat} {x : Sv} (h : Hid (w.rangeAt b off x.cells)) (ho : o.op = .load 38 p) (hx : a.eval p = .pointer (some ⟨b, off, none⟩))
    (hk : K (a.put o.dst (.agg x.cells.toArray))) : o.quiet Try.prog a (fun w' => ∃ p : Regrown, w' = Go.Sort.grow (redrawn w p.d) p.os) K := by
  refine ⟨_, fun w' hw' => ?_, hk⟩
  obtain ⟨q, rfl⟩ := hw'
  have hr := rangeAt_keep h.out (below_regrown w q.d q.os)
  have hl := run_loadVar_mid (P := Try.prog) _ b off 38 x.cells _ hr Try.underlying38 rfl (by rw [sv_len]; kernel_rfl)
  unfold Oper.quietAt execOp
  simp only [ho, hx, Instr.loadAt, Instr.sureAddr, Sem.run_bind, Sem.run_pure, Result.andThen_ok, hl]
  exact ⟨rfl, rfl⟩
/-- THE WALK's STEP: a whole session is loaded, behind a guard -/
theorem ldg {ops : Array Oper} {rest : List Oper} {op : Oper} {a : Act} {w : World} {Q : Exit → Act → World → Prop} {p : Operand} {b o : Nat} {x : Sv} (h : Hid (w.rangeAt b o x.cells)) (hgd : Region.wanted op (yielded ops a.tmps) = true) (ho : op.op = .load 38 p) (hx : a.eval p = .pointer (some ⟨b, o, none⟩))
    (hk : wpList Try.prog ops Q rest (a.put op.dst (.agg x.cells.toArray)) w) : wpList Try.prog ops Q (op :: rest) a w :=
  wpList_step fun K hK => by
    rw [if_pos hgd]
    exact wp_load_mid _ p ho b o hx x.cells _ h.out Try.underlying38 rfl (by rw [sv_len]; kernel_rfl) (hK _ _ hk)
end Go.Proofs.Ytlmkkfigmoefdaa.K
