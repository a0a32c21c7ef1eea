/- Stores into maps, and deletes, in a region that draws its order. No program in it. -/
import Derived.Test.YtehkhopkedbngaaMp
namespace Go.Proofs.Ytehkhopkedbngaa
open Go.RowKit Go.Maps Go.Proofs.YtehkhopkedbngaaW.PrintWords
section
variable {α β : Type} [DecidableEq α] {P : Program} {k : TypeId} {K : KeyKd P k α} {enc : β → Value} {w : World} {b : Nat} {ps : List (α × β)} {ops : Array Oper} {o : Oper} {a : Act} {Q : Exit → Act → World → Prop} {Kc : Act → World → Prop}
theorem put_step (h : MapAt K enc w b ps) (hw : Region.wanted o (yielded ops a.tmps) = true) (m x v : Operand) (t e : TypeId) (hop : o.op = Op.mapUpdate t m x v) (ht : P.underlying t = some (.map k e)) (hl : ps.length < maxLen)
    (hm : a.eval m = .map (some b)) (c : α) (y : β) (hx : a.eval x = K.val c) (hv : a.eval v = enc y) (hc : K.ok c)
    (hK : ∀ w', MapAt K enc w' b (mput ps c y) → ButB w w' b → Kc (a.put o.dst undef) w') : if Region.wanted o (yielded ops a.tmps) = true then Oper.wp P o a w Kc Q else Kc (a.put o.dst undef) w := by
  rw [if_pos hw]
  obtain ⟨w', hrun, r1, r2⟩ := h.put ht hl hc y
  unfold Oper.wp
  simp [execOp, hop, hm, hx, hv, hrun, Result.andThen]
  exact hK w' r1 r2
theorem del_step (h : MapAt K enc w b ps) (hw : Region.wanted o (yielded ops a.tmps) = true) (m x : Operand) (t e : TypeId) (hop : o.op = Op.call { callee := Callee.builtin Builtin.delete, args := #[m, x], argTypes := #[t, k] }) (ht : P.underlying t = some (.map k e))
    (hm : a.eval m = .map (some b)) (c : α) (hx : a.eval x = K.val c) (hc : K.ok c)
    (hK : ∀ w', MapAt K enc w' b (mdel ps c) → ButB w w' b → Kc (a.put o.dst (.tuple #[])) w') : if Region.wanted o (yielded ops a.tmps) = true then Oper.wp P o a w Kc Q else Kc (a.put o.dst undef) w := by
  rw [if_pos hw]
  obtain ⟨w', hrun, r1, r2⟩ := h.del ht hc o.type
  unfold Oper.wp
  simp [execOp, hop, resolve, invoke, builtin, hm, hx, hrun, Result.andThen]
  exact hK w' r1 r2
/-- .. where the walk stands in the middle of the store. -/
theorem upon_put (h : MapAt K enc w b ps) {t e : TypeId} (ht : P.underlying t = some (.map k e)) (hl : ps.length < maxLen) (c : α) (y : β) {key val : Value} (hx : key = K.val c) (hv : val = enc y) (hc : K.ok c)
    (hK : ∀ w', MapAt K enc w' b (mput ps c y) → ButB w w' b → Kc (a.put o.dst undef) w') : Oper.upon P o a Kc Q ((Sem.run P (Instr.mapUpdate t (.map (some b)) key val) w).andThen fun _ w' => .ok Next.skip w') := by
  obtain ⟨w', hrun, r1, r2⟩ := h.put ht hl hc y
  subst hx hv
  rw [hrun]
  exact hK w' r1 r2
end
end Go.Proofs.Ytehkhopkedbngaa
