/- The first of those that end first: the plain law of the document's Sweep. No program in it. -/
import Derived.Test.YtehkhopkedbngaaLdLaw
namespace Go.Proofs.Ytehkhopkedbngaa

def Best (l : List (Ent Int)) (now : Int) (i : Nat) (a : Int) : Prop :=
  (a = -1 ∧ ∀ p ∈ l.take i, ¬ p.2.2 ≤ now) ∨
  (∃ (m : Nat) (p : Ent Int), a = m ∧ m < i ∧ l[m]? = some p ∧ p.2.2 ≤ now ∧ (∀ q ∈ l.take m, q.2.2 ≤ now → p.2.2 < q.2.2) ∧ (∀ q ∈ l.take i, q.2.2 ≤ now → p.2.2 ≤ q.2.2))
section
variable {l : List (Ent Int)} {now : Int} {i : Nat} {a : Int} {x : Ent Int}
theorem take_next (hx : l[i]? = some x) : l.take (i + 1) = l.take i ++ [x] := by rw [List.take_add_one, hx]; rfl
theorem mem_next (hx : l[i]? = some x) {q : Ent Int} (hq : q ∈ l.take (i + 1)) : q ∈ l.take i ∨ q = x := by
  rw [take_next hx] at hq
  rcases List.mem_append.1 hq with h | h
  · exact .inl h
  · exact .inr (List.mem_singleton.1 h)
theorem Best.start : Best l now 0 (-1) := .inl ⟨rfl, by simp⟩
theorem Best.skip (h : Best l now i a) (hx : l[i]? = some x) (hn : ¬ x.2.2 ≤ now) : Best l now (i + 1) a := by
  rcases h with ⟨h1, h2⟩ | ⟨m, p, h1, h2, h3, h4, h5, h6⟩
  · refine .inl ⟨h1, fun q hq => ?_⟩
    rcases mem_next hx hq with h | rfl
    · exact h2 q h
    · exact hn
  · refine .inr ⟨m, p, h1, by omega, h3, h4, h5, fun q hq hqn => ?_⟩
    rcases mem_next hx hq with h | rfl
    · exact h6 q h hqn
    · exact absurd hqn hn
theorem Best.first (h : Best l now i a) (hx : l[i]? = some x) (hn : x.2.2 ≤ now) (ha : a < 0) : Best l now (i + 1) i := by
  rcases h with ⟨h1, h2⟩ | ⟨m, p, h1, _⟩
  · refine .inr ⟨i, x, rfl, by omega, hx, hn, fun q hq hqn => absurd hqn (h2 q hq), fun q hq hqn => ?_⟩
    rcases mem_next hx hq with h | rfl
    · exact absurd hqn (h2 q h)
    · exact Int.le_refl _
  · omega
theorem Best.less (h : Best l now i a) (hx : l[i]? = some x) (hn : x.2.2 ≤ now) {m : Nat} {p : Ent Int} (ha : a = m) (hp : l[m]? = some p) (hl : x.2.2 < p.2.2) : Best l now (i + 1) i := by
  rcases h with ⟨h1, h2⟩ | ⟨m', p', h1, h2, h3, h4, h5, h6⟩
  · omega
  · obtain rfl : m = m' := by omega
    obtain rfl : p = p' := Option.some.inj (hp.symm.trans h3)
    refine .inr ⟨i, x, rfl, by omega, hx, hn, fun q hq hqn => ?_, fun q hq hqn => ?_⟩
    · have := h6 q hq hqn; omega
    · rcases mem_next hx hq with h | rfl
      · have := h6 q h hqn; omega
      · exact Int.le_refl _
theorem Best.keep (h : Best l now i a) (hx : l[i]? = some x) {m : Nat} {p : Ent Int} (ha : a = m) (hp : l[m]? = some p) (hl : ¬ x.2.2 < p.2.2) : Best l now (i + 1) a := by
  rcases h with ⟨h1, h2⟩ | ⟨m', p', h1, h2, h3, h4, h5, h6⟩
  · omega
  · obtain rfl : m = m' := by omega
    obtain rfl : p = p' := Option.some.inj (hp.symm.trans h3)
    refine .inr ⟨m, p, h1, by omega, h3, h4, h5, fun q hq hqn => ?_⟩
    rcases mem_next hx hq with h | rfl
    · exact h6 q h hqn
    · omega
/-- Where it is, when there is one. -/
theorem Best.at_ (h : Best l now i a) (ha : ¬ a < 0) : ∃ (m : Nat) (p : Ent Int), a = m ∧ m < i ∧ l[m]? = some p := by
  rcases h with ⟨h1, _⟩ | ⟨m, p, h1, h2, h3, _⟩
  · omega
  · exact ⟨m, p, h1, h2, h3⟩
theorem past_nil (h : ∀ p ∈ l, ¬ p.2.2 ≤ now) : past l now = [] := by
  have hp := past_perm l now
  rw [show l.filter (fun p => decide (p.2.2 ≤ now)) = [] by
    rw [List.filter_eq_nil_iff]
    intro p hp
    simpa using h p hp] at hp
  exact List.Perm.eq_nil hp
theorem left_all (h : ∀ p ∈ l, ¬ p.2.2 ≤ now) : left l now = l := by
  unfold left
  rw [List.filter_eq_self]
  intro p hp
  have := h p hp
  simp
  omega
theorem Best.none (h : Best l now l.length a) (ha : a < 0) : past l now = [] ∧ left l now = l := by
  rcases h with ⟨h1, h2⟩ | ⟨m, p, h1, _⟩
  · rw [List.take_length] at h2
    exact ⟨past_nil h2, left_all h2⟩
  · omega
theorem Best.some (hr : Rising l) (h : Best l now l.length a) {m : Nat} {p : Ent Int} (ha : a = m) (hp : l[m]? = .some p) :
    past l now = p :: past (mdel l p.1) now ∧ left (mdel l p.1) now = left l now := by
  rcases h with ⟨h1, h2⟩ | ⟨m', p', h1, h2, h3, h4, h5, h6⟩
  · omega
  · obtain rfl : m = m' := by omega
    obtain rfl : p = p' := Option.some.inj (hp.symm.trans h3)
    rw [List.take_length] at h6
    have hsplit : l = l.take m ++ p :: l.drop (m + 1) := by
      conv => lhs; rw [← List.take_append_drop m l]
      congr 1
      rw [List.drop_eq_getElem_cons h2, (List.getElem?_eq_some_iff.1 hp).2]
    have hnd := hr.keys
    have hd : mdel l p.1 = l.take m ++ l.drop (m + 1) := by
      rw [hsplit, List.map_append, List.map_cons, List.nodup_append, List.nodup_cons] at hnd
      obtain ⟨n1, ⟨n2, n3⟩, n4⟩ := hnd
      have e1 : mdel (l.take m ++ p :: l.drop (m + 1)) p.1 = l.take m ++ l.drop (m + 1) := by
        unfold mdel
        rw [List.filter_append, List.filter_cons]
        simp only [ne_eq, not_true, decide_false, Bool.false_eq_true, if_false]
        congr 1
        · rw [List.filter_eq_self]
          intro q hq
          have := n4 q.1 (List.mem_map_of_mem hq) p.1 (List.mem_cons_self ..)
          simpa using this
        · rw [List.filter_eq_self]
          intro q hq
          have : q.1 ≠ p.1 := fun e => n2 (e ▸ List.mem_map_of_mem hq)
          simpa using this
      rw [← hsplit] at e1
      exact e1
    constructor
    · symm
      apply past_unique hr
      · refine ((past_perm (mdel l p.1) now).cons p).trans ?_
        rw [hd]
        conv => rhs; rw [hsplit]
        rw [List.filter_append, List.filter_append, List.filter_cons, if_pos (by simpa using h4)]
        exact List.perm_middle.symm
      · rw [List.pairwise_cons]
        refine ⟨fun q hq => ?_, past_sorted _ _⟩
        obtain ⟨hq1, hq2⟩ := past_mem.1 hq
        rw [hd] at hq1
        unfold leE
        rw [decide_eq_true_iff]
        rcases List.mem_append.1 hq1 with h | h
        · exact .inl (h5 q h hq2)
        · have hle := h6 q (List.mem_of_mem_drop h) hq2
          rcases Int.lt_or_eq_of_le hle with hlt | heq
          · exact .inl hlt
          · refine .inr ⟨heq, ?_⟩
            have hr2 := hr
            unfold Rising at hr2
            rw [hsplit, List.pairwise_append, List.pairwise_cons] at hr2
            exact bl_asymm (hr2.2.1.1 q h)
    · rw [hd]
      unfold left
      conv => rhs; rw [hsplit]
      rw [List.filter_append, List.filter_append, List.filter_cons, if_neg (by simp; omega)]
end
end Go.Proofs.Ytehkhopkedbngaa
