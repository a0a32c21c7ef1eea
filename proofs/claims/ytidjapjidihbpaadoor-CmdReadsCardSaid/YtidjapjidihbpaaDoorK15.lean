/- Put together: A struct of 18 cells behind a name. -/
import Derived.Test.YtidjapjidihbpaaDoorK12
set_option linter.unusedVariables false
set_option linter.unusedSimpArgs false
set_option linter.unusedVariables false
namespace Go.Proofs.YtidjapjidihbpaaDoor
open Go.RowKit Go.Proofs.YtidjapjidihbpaaDoorW.PrintWords Go.Proofs.YtidjapjidihbpaaDoorW.PrintLast
theorem exec_load_row {P : Program} {o : Oper} {a : Act} {w : World} (ty : TypeId) (x : Operand) (ho : o.op = .load ty x)
    (g : Nat) (hx : a.eval x = .pointer (some ⟨g, 0, none⟩)) (t : TypeId) (cs : Array Value) (fr : Nat × Nat) (d : TypeDesc) (hg : w.heap[g]? = some (.cells cs t fr))
    (hu : P.underlying ty = some d) (hd : (match d with | .struct _ | .array _ _ => true | _ => false) = true) (hi : (P.info? ty).map (·.size) = some cs.size) : (execOp a.eval o).run P w = .ok (.value (.agg cs)) w := by
  unfold execOp
  simp only [ho, hx, Instr.loadAt, Instr.sureAddr, Sem.run_bind, Sem.run_pure, Result.andThen_ok, run_loadVar_row w g t ty cs fr d hg hu hd hi]
set_option maxRecDepth 100000 in
theorem fold_cells (c : Cm) (v : Value) (n : Int) : Array.foldl (fun (cs : Array Value) (x : Value × Nat) => cs.setIfInBounds x.snd x.fst) #[.int .i64 0, .int .i64 0, .int .i64 0, .string ⟨#[]⟩, .int .i64 0, .int .i64 0, .int .i64 0, .int .i64 0, .int .i64 0, .string ⟨#[]⟩, .bool false, .string ⟨#[]⟩, .string ⟨#[]⟩, .string ⟨#[]⟩, .string ⟨#[]⟩, .slice none 0 0, .int .i64 0, .int .i64 0] (c.cells v n).zipIdx 0 18 = c.cells v n := by kernel_rfl
theorem cells_size (c : Cm) (v : Value) (n : Int) : (c.cells v n).size = 18 := rfl
theorem cells_one (c : Cm) (A : Option Addr) (m d : Nat) (n : Int) : (c.cells (.slice A m d) n).all (·.oneCell') = true := by simp [Cm.cells, Value.oneCell']
theorem hp_base {w0 w1 w : World} {Ps : List Asn} (h : Below w0.heap.size w0 w1) (hp : Hp w1 w Ps) : Hp w0 w Ps := ⟨h.trans (hp.1.mono h.size), hp.2.mono (fun k hk _ => Nat.le_trans h.size hk)⟩
end Go.Proofs.YtidjapjidihbpaaDoor
