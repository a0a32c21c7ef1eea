/- What a post is in memory (a room and a row), and what its calls come to, as plain functions. -/
import Derived.Test.YteeiobjjipcihaaBase
namespace Go.Proofs.Yteeiobjjipcihaa
open Go.RowKit Go.Proofs.YteeiobjjipcihaaW.PrintWords

/-- A post (its block p; its row of letters among the blocks ok): room, and what is on its way. -/
def PostAt {α : Type} (d : Kd α) (e t : Nat) (w : World) (ok : Nat → Prop) (p : Nat) (room : Int) (xs : List α) : Prop :=
  ∃ v, w.heap[p]? = some (.cells #[.int .i64 room, v] t (0, 0)) ∧ d.R e w 0 (fun k => ok k ∧ k ≠ p) v xs ∧ ok p ∧ (xs.length : Int) ≤ room ∧ room ≤ 9223372036854775807

theorem PostAt.step {α : Type} {d : Kd α} {e t : Nat} {w w1 : World} {ok : Nat → Prop} {p : Nat} {room : Int} {xs : List α} (h : PostAt d e t w ok p room xs)
    (hm : ∀ k, ok k → k < w.heap.size → w1.heap[k]? = w.heap[k]?) : PostAt d e t w1 ok p room xs := by
  obtain ⟨v, h1, h2, h3, h4⟩ := h
  exact ⟨v, by rw [hm p h3 (blk_lt h1)]; exact h1, Kd.R_step h2 (fun k hk hl => hm k hk.1 hl), h3, h4⟩
theorem PostAt.mono {α : Type} {d : Kd α} {e t : Nat} {w : World} {ok ok' : Nat → Prop} {p : Nat} {room : Int} {xs : List α} (h : PostAt d e t w ok p room xs)
    (hm : ∀ k, ok k → k < w.heap.size → ok' k) : PostAt d e t w ok' p room xs := by
  obtain ⟨v, h1, h2, h3, h4⟩ := h
  exact ⟨v, h1, Kd.R_mono (Kd.R_bound h2) (fun k hk => ⟨hm k hk.1.1 hk.2.2.1, hk.1.2⟩), hm p h3 (blk_lt h1), h4⟩
theorem PostAt.lt {α : Type} {d : Kd α} {e t : Nat} {w : World} {ok : Nat → Prop} {p : Nat} {room : Int} {xs : List α} (h : PostAt d e t w ok p room xs) : p < w.heap.size := by
  obtain ⟨v, h1, _⟩ := h
  exact blk_lt h1

theorem PostAt.ok {α : Type} {d : Kd α} {e t : Nat} {w : World} {ok : Nat → Prop} {p : Nat} {room : Int} {xs : List α} (h : PostAt d e t w ok p room xs) : ok p := by
  obtain ⟨_, _, _, h3, _⟩ := h
  exact h3
theorem PostAt.kept {α : Type} {d : Kd α} {e t : Nat} {w w1 : World} {ok S : Nat → Prop} {p : Nat} {room : Int} {xs : List α} (h : PostAt d e t w ok p room xs) (hk : Keep S w w1) (hd : ∀ k, ok k → k < w.heap.size → ¬ S k) : PostAt d e t w1 ok p room xs :=
  h.step (fun k ho hl => hk.block k hl (hd k ho hl))
/-- What stands at place k (z: nothing), and whether there is such a place. -/
def lookAt {α : Type} (z : α) (xs : List α) (k : Int) : α × Bool := if 0 ≤ k ∧ k < xs.length then (xs.getD k.toNat z, true) else (z, false)
theorem lookAt_out {α : Type} {z : α} {xs : List α} {k : Int} (h : ¬ (0 ≤ k ∧ k < xs.length)) : lookAt z xs k = (z, false) := by unfold lookAt; rw [if_neg h]
theorem lookAt_in {α : Type} {z : α} {xs : List α} {k : Nat} {x : α} (h : xs[k]? = some x) : lookAt z xs k = (x, true) := by
  have hl : k < xs.length := (List.getElem?_eq_some_iff.1 h).1
  unfold lookAt
  rw [if_pos (by omega)]
  simp [List.getD, h]
/-- What is left where place k was taken out. -/
def takeOut {α : Type} (xs : List α) (k : Int) : List α := if 0 ≤ k ∧ k < xs.length then xs.take k.toNat ++ xs.drop (k.toNat + 1) else xs
theorem takeOut_out {α : Type} {xs : List α} {k : Int} (h : ¬ (0 ≤ k ∧ k < xs.length)) : takeOut xs k = xs := by unfold takeOut; rw [if_neg h]
theorem takeOut_in {α : Type} {xs : List α} {k : Nat} (h : k < xs.length) : takeOut xs k = xs.take k ++ xs.drop (k + 1) := by
  unfold takeOut
  rw [if_pos (by omega)]
  simp
theorem takeOut_length {α : Type} (xs : List α) (k : Int) : ((takeOut xs k).length : Int) = if 0 ≤ k ∧ k < xs.length then (xs.length : Int) - 1 else xs.length := by
  unfold takeOut
  split
  · rw [List.length_append, List.length_take, List.length_drop]; omega
  · rfl
/-- How many of so many letters find room. -/
def sendN (room : Int) (n m : Nat) : Nat := min m (room.toNat - n)

end Go.Proofs.Yteeiobjjipcihaa
