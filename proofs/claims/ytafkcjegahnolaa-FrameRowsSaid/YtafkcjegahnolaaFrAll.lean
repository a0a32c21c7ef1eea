/- frame.All by its contract (of bytes that one window holds). -/
import Derived.Test.YtafkcjegahnolaaFrNext
import Derived.Test.YtafkcjegahnolaaFrTorn
namespace Go.Proofs.Ytafkcjegahnolaa
open Go.RowKit Go.Proofs.YtafkcjegahnolaaW.PrintWords

/-- What All hands back, of so many frames at most. -/
def allOf : Nat → List Int → List (List Int) × Nat × Int
  | 0, _ => ([], 0, 0)
  | k + 1, b => if b = [] then ([], 0, 0) else if nextErr b = 0 then (nextBody b :: (allOf k (nextRest b)).1, 6 + (nextBody b).length + (allOf k (nextRest b)).2.1, (allOf k (nextRest b)).2.2) else ([], 0, nextErr b)
theorem next_facts {b : List Int} (h : nextErr b = 0) : 6 + headN b ≤ b.length ∧ (nextBody b).length = headN b ∧ nextRest b = b.drop (6 + headN b) ∧ headN b ≤ 4096 ∧ b.take (6 + headN b) = sealOf (nextBody b) := by
  have h6 : ¬ b.length < 6 := fun e => by rw [nextErr, if_pos e] at h; cases h
  have hn : ¬ headN b > 4096 := fun e => by rw [nextErr, if_neg h6, if_pos e] at h; cases h
  have he : ¬ headN b > b.length - 6 := fun e => by rw [nextErr, if_neg h6, if_neg hn, if_pos e] at h; cases h
  have hs : headOf (bodyOf b) = b.take 6 := by
    rw [nextErr, if_neg h6, if_neg hn, if_neg he] at h
    by_cases hh : headOf (bodyOf b) = b.take 6
    · exact hh
    · rw [if_neg hh] at h; cases h
  refine ⟨by omega, ?_, ?_, by omega, ?_⟩
  · rw [nextBody, if_pos h, bodyOf, List.length_take, List.length_drop]
    omega
  · rw [nextRest, if_pos h]
  · rw [nextBody, if_pos h, sealOf, hs, bodyOf, ← List.take_add]
/-- Where the loop stands: what is behind is all of what was asked. -/
structure AllAt (K : Nat) (b : List Int) (l : List (List Int)) (used : Nat) (e : Int) : Prop where
  le : used ≤ b.length
  len : l.length ≤ used
  on : e = 0 → ∃ k, b.length - used < k ∧ allOf K b = (l ++ (allOf k (b.drop used)).1, used + (allOf k (b.drop used)).2.1, (allOf k (b.drop used)).2.2)
  off : e ≠ 0 → allOf K b = (l, used, e)
theorem AllAt.first (b : List Int) : AllAt (b.length + 1) b [] 0 0 := ⟨by omega, by simp, fun _ => ⟨b.length + 1, by omega, by simp⟩, fun h => absurd rfl h⟩
theorem AllAt.done {K : Nat} {b : List Int} {l : List (List Int)} {e : Int} (h : AllAt K b l b.length e) : allOf K b = (l, b.length, e) := by
  by_cases he : e = 0
  · obtain ⟨k, hk, hA⟩ := h.on he
    rw [hA, List.drop_length]
    obtain ⟨k, rfl⟩ : ∃ q, k = q + 1 := ⟨k - 1, by omega⟩
    simp [allOf, he]
  · exact h.off he
theorem AllAt.bad {K : Nat} {b : List Int} {l : List (List Int)} {used : Nat} (h : AllAt K b l used 0) (hu : used < b.length) (hn : nextErr (b.drop used) ≠ 0) : AllAt K b l used (nextErr (b.drop used)) := by
  refine ⟨h.le, h.len, fun e => absurd e hn, fun _ => ?_⟩
  obtain ⟨k, hk, hA⟩ := h.on rfl
  obtain ⟨k, rfl⟩ : ∃ q, k = q + 1 := ⟨k - 1, by omega⟩
  have hne : b.drop used ≠ [] := fun e => by have := congrArg List.length e; rw [List.length_drop] at this; simp at this; omega
  rw [hA, allOf, if_neg hne, if_neg hn]
  simp
theorem AllAt.good {K : Nat} {b : List Int} {l : List (List Int)} {used : Nat} (h : AllAt K b l used 0) (hu : used < b.length) (hn : nextErr (b.drop used) = 0) : AllAt K b (l ++ [nextBody (b.drop used)]) (used + 6 + (nextBody (b.drop used)).length) 0 := by
  obtain ⟨h1, h2, h3, h4, _⟩ := next_facts hn
  rw [List.length_drop] at h1
  have hlen := h.len
  refine ⟨by omega, by rw [List.length_append, List.length_singleton]; omega, fun _ => ?_, fun e => absurd rfl e⟩
  obtain ⟨k, hk, hA⟩ := h.on rfl
  obtain ⟨k, rfl⟩ : ∃ q, k = q + 1 := ⟨k - 1, by omega⟩
  have hne : b.drop used ≠ [] := fun e => by have := congrArg List.length e; rw [List.length_drop] at this; simp at this; omega
  refine ⟨k, by omega, ?_⟩
  have hd : nextRest (b.drop used) = b.drop (used + 6 + (nextBody (b.drop used)).length) := by
    rw [h3, List.drop_drop, h2, Nat.add_assoc]
  rw [hA, allOf, if_neg hne, if_pos hn, hd]
  simp only [List.append_assoc, List.cons_append, List.nil_append, Prod.mk.injEq, true_and, and_true]
  omega
theorem AllAt.end_ {K : Nat} {b : List Int} {l : List (List Int)} {used : Nat} {e : Int} (h : AllAt K b l used e) (hx : used = b.length ∨ e ≠ 0) : allOf K b = (l, used, e) := by
  by_cases he : e = 0
  · rcases hx with hx | hx
    · subst hx
      exact h.done
    · exact absurd he hx
  · exact h.off he
end Go.Proofs.Ytafkcjegahnolaa
