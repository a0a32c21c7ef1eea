/- What is known for a while: the plain law of a ledger, a row that rises by its keys. No program in it. -/
import Derived.Test.YtehkhopkedbngaaMp
import Derived.Sort.Walk0
namespace Go.Proofs.Ytehkhopkedbngaa

/-- Go's '<' on strings. -/
def bl (a b : ByteArray) : Prop := a.data.toList < b.data.toList
instance (a b : ByteArray) : Decidable (bl a b) := inferInstanceAs (Decidable (a.data.toList < b.data.toList))
theorem bl_irrefl (a : ByteArray) : ¬ bl a a := List.lt_irrefl _
theorem bl_trans {a b c : ByteArray} (h1 : bl a b) (h2 : bl b c) : bl a c := List.lt_trans h1 h2
theorem bl_asymm {a b : ByteArray} (h : bl a b) : ¬ bl b a := fun h2 => bl_irrefl a (bl_trans h h2)
theorem bl_tri {a b : ByteArray} (h : a ≠ b) : bl a b ∨ bl b a := by
  rcases Classical.em (bl a b) with h1 | h1
  · exact .inl h1
  · rcases Classical.em (bl b a) with h2 | h2
    · exact .inr h2
    · refine absurd (Go.WideShapes.bytes_inj (List.le_antisymm ?_ ?_)) h
      · exact h2
      · exact h1
theorem bl_less (a b : ByteArray) : Op.bytesLess a.toList b.toList = decide (bl a b) := by
  rw [ByteArray.toList_eq, ByteArray.toList_eq, bytesLess_eq]
  rfl

/-- An entry: its key, its value, until when. -/
abbrev Ent (α : Type) := ByteArray × (α × Int)
section
variable {α : Type}
def Rising (r : List (Ent α)) : Prop := r.Pairwise (fun a b => bl a.1 b.1)
def hasKey (r : List (Ent α)) (k : ByteArray) : Bool := r.any (fun p => decide (p.1 = k))
def ldPut (r : List (Ent α)) (k : ByteArray) (x : α × Int) : List (Ent α) := (mdel r k).filter (fun p => decide (bl p.1 k)) ++ (k, x) :: (mdel r k).filter (fun p => decide (bl k p.1))
/-- Whether a key may be put. -/
def mayPut (room : Int) (r : List (Ent α)) (k : ByteArray) : Bool := hasKey r k || decide ((r.length : Int) < room)
theorem has_get (r : List (Ent α)) (k : ByteArray) : hasKey r k = (mget r k).isSome := by
  unfold hasKey mget
  rw [Option.isSome_map, List.any_eq, Bool.eq_iff_iff]
  simp [List.find?_isSome]
theorem Rising.nil : Rising ([] : List (Ent α)) := List.Pairwise.nil
theorem Rising.filter {r : List (Ent α)} (h : Rising r) (f : Ent α → Bool) : Rising (r.filter f) := List.Pairwise.filter _ h
theorem Rising.keys {r : List (Ent α)} (h : Rising r) : (r.map (·.1)).Nodup := by
  rw [List.nodup_iff_pairwise_ne, List.pairwise_map]
  unfold Rising at h
  refine h.imp (fun {a b} hab e => ?_)
  rw [e] at hab
  exact bl_irrefl _ hab
theorem Rising.put {r : List (Ent α)} (h : Rising r) (k : ByteArray) (x : α × Int) : Rising (ldPut r k x) := by
  unfold ldPut Rising
  have hd : Rising (mdel r k) := h.filter _
  rw [List.pairwise_append]
  refine ⟨hd.filter _, ?_, fun a ha b hb => ?_⟩
  · rw [List.pairwise_cons]
    exact ⟨fun b hb => by simpa using (List.mem_filter.1 hb).2, hd.filter _⟩
  · have h1 : bl a.1 k := by simpa using (List.mem_filter.1 ha).2
    rcases List.mem_cons.1 hb with rfl | hb
    · exact h1
    · have h2 : bl k b.1 := by simpa using (List.mem_filter.1 hb).2
      exact bl_trans h1 h2
theorem put_perm (r : List (Ent α)) (k : ByteArray) (x : α × Int) : (mput r k x).Perm (ldPut r k x) := by
  unfold mput ldPut
  refine List.Perm.trans ?_ (List.perm_middle).symm
  refine List.Perm.cons _ ?_
  have hne : ∀ p ∈ mdel r k, p.1 ≠ k := fun p hp => by simpa using (List.mem_filter.1 hp).2
  have e : (mdel r k).filter (fun p => decide (bl k p.1)) = (mdel r k).filter (fun p => !decide (bl p.1 k)) := by
    apply List.filter_congr
    intro p hp
    rcases bl_tri (hne p hp) with h | h
    · simp [h, bl_asymm h]
    · simp [h, bl_asymm h]
  rw [e]
  exact (List.filter_append_perm (fun p : Ent α => decide (bl p.1 k)) (mdel r k)).symm
theorem ldPut_len {r : List (Ent α)} (h : Rising r) (k : ByteArray) (x : α × Int) : (ldPut r k x).length = if hasKey r k then r.length else r.length + 1 := by
  rw [← (put_perm r k x).length_eq, mput_length h.keys, has_get]
theorem ldPut_get {r : List (Ent α)} (h : Rising r) (k : ByteArray) (x : α × Int) (k' : ByteArray) : mget (ldPut r k x) k' = if k' = k then some x else mget r k' := by
  rw [mget_perm (mput_keys h.keys k x) (put_perm r k x)]
  by_cases e : k' = k
  · subst e; rw [if_pos rfl, mget_put_same]
  · rw [if_neg e, mget_put_other _ _ e]
theorem hasKey_put {r : List (Ent α)} (h : Rising r) (k : ByteArray) (x : α × Int) (k' : ByteArray) : hasKey (ldPut r k x) k' = (decide (k' = k) || hasKey r k') := by
  rw [has_get, has_get, ldPut_get h]
  by_cases e : k' = k <;> simp [e]
theorem hasKey_del (r : List (Ent α)) (k k' : ByteArray) : hasKey (mdel r k) k' = (!decide (k' = k) && hasKey r k') := by
  rw [has_get, has_get]
  by_cases e : k' = k
  · subst e; rw [mget_del_same]; simp
  · rw [mget_del_other _ e]; simp [e]
/-- What is past: its entries, by their time, and then by their keys. -/
def leE (a b : Ent α) : Bool := decide (a.2.2 < b.2.2 ∨ a.2.2 = b.2.2 ∧ ¬ bl b.1 a.1)
def past (r : List (Ent α)) (now : Int) : List (Ent α) := (r.filter (fun p => decide (p.2.2 ≤ now))).mergeSort leE
def left (r : List (Ent α)) (now : Int) : List (Ent α) := r.filter (fun p => decide (now < p.2.2))
theorem leE_trans (a b c : Ent α) (h1 : leE a b = true) (h2 : leE b c = true) : leE a c = true := by
  unfold leE at *
  rw [decide_eq_true_iff] at *
  rcases h1 with h1 | ⟨h1, h1'⟩ <;> rcases h2 with h2 | ⟨h2, h2'⟩
  · left; omega
  · left; omega
  · left; omega
  · right
    refine ⟨by omega, fun h => ?_⟩
    rcases Classical.em (a.1 = b.1) with e | e
    · rw [e] at h; exact h2' h
    · rcases bl_tri e with h3 | h3
      · exact h2' (bl_trans h h3)
      · exact h1' h3
theorem leE_total (a b : Ent α) : (leE a b || leE b a) = true := by
  unfold leE
  rw [Bool.or_eq_true, decide_eq_true_iff, decide_eq_true_iff]
  rcases Int.lt_trichotomy a.2.2 b.2.2 with h | h | h
  · exact .inl (.inl h)
  · rcases Classical.em (bl b.1 a.1) with h1 | h1
    · exact .inr (.inr ⟨h.symm, bl_asymm h1⟩)
    · exact .inl (.inr ⟨h, h1⟩)
  · exact .inr (.inl h)
theorem past_perm (r : List (Ent α)) (now : Int) : (past r now).Perm (r.filter (fun p => decide (p.2.2 ≤ now))) := List.mergeSort_perm _ _
theorem past_sorted (r : List (Ent α)) (now : Int) : (past r now).Pairwise (fun a b => leE a b = true) := List.pairwise_mergeSort leE_trans leE_total _
theorem past_keys {r : List (Ent α)} (h : Rising r) (now : Int) : ((past r now).map (·.1)).Nodup := ((past_perm r now).map _).nodup_iff.2 (h.filter _).keys
theorem past_mem {r : List (Ent α)} {now : Int} {p : Ent α} : p ∈ past r now ↔ p ∈ r ∧ p.2.2 ≤ now := by rw [(past_perm r now).mem_iff, List.mem_filter, decide_eq_true_iff]
/-- A permutation of what is past, in this order, is it. -/
theorem past_unique {r : List (Ent α)} (h : Rising r) {now : Int} {l : List (Ent α)} (hp : l.Perm (r.filter (fun p => decide (p.2.2 ≤ now)))) (hs : l.Pairwise (fun a b => leE a b = true)) : l = past r now := by
  refine List.Perm.eq_of_pairwise (le := fun a b => leE a b = true) (fun a b ha hb h1 h2 => ?_) hs (past_sorted r now) (hp.trans (past_perm r now).symm)
  unfold leE at h1 h2
  rw [decide_eq_true_iff] at h1 h2
  have hk : a.1 = b.1 := by
    rcases Classical.em (a.1 = b.1) with e | e
    · exact e
    · rcases bl_tri e with h3 | h3
      · rcases h2 with h2 | h2
        · rcases h1 with h1 | h1 <;> omega
        · exact absurd h3 h2.2
      · rcases h1 with h1 | h1
        · rcases h2 with h2 | h2 <;> omega
        · exact absurd h3 h1.2
  have h3 := mget_mem h.keys (List.mem_filter.1 (hp.mem_iff.1 ha)).1
  have h4 := mget_mem h.keys (List.mem_filter.1 ((past_perm r now).mem_iff.1 hb)).1
  rw [hk, h4] at h3
  exact Prod.ext hk (Option.some.inj h3).symm
/-- Without all that is past, key by key. -/
def dropKeys (r : List (Ent α)) (ks : List ByteArray) : List (Ent α) := r.filter (fun p => !ks.any (fun k => decide (k = p.1)))
theorem dropKeys_nil (r : List (Ent α)) : dropKeys r [] = r := by unfold dropKeys; simp
theorem dropKeys_snoc (r : List (Ent α)) (ks : List ByteArray) (k : ByteArray) : dropKeys r (ks ++ [k]) = mdel (dropKeys r ks) k := by
  unfold dropKeys mdel
  rw [List.filter_filter]
  apply List.filter_congr
  intro p _
  rw [List.any_append]
  by_cases e : k = p.1
  · simp [e]
  · have e2 : p.1 ≠ k := fun h => e h.symm
    simp [e, e2]
theorem left_eq {r : List (Ent α)} (h : Rising r) (now : Int) : dropKeys r ((past r now).map (·.1)) = left r now := by
  unfold dropKeys left
  apply List.filter_congr
  intro p hp
  by_cases hn : now < p.2.2
  · rw [decide_eq_true hn]
    rw [Bool.not_eq_true', List.any_eq_false]
    intro k hk e
    obtain ⟨q, hq, rfl⟩ := List.mem_map.1 hk
    obtain ⟨hq1, hq2⟩ := past_mem.1 hq
    have e : q.1 = p.1 := by simpa using e
    have h3 := mget_mem h.keys hq1
    have h4 := mget_mem h.keys hp
    rw [e, h4] at h3
    have := Option.some.inj h3
    rw [this] at hn
    omega
  · rw [decide_eq_false hn]
    rw [Bool.not_eq_false', List.any_eq_true]
    exact ⟨p.1, List.mem_map_of_mem (past_mem.2 ⟨hp, by omega⟩), by simp⟩
theorem left_len (r : List (Ent α)) (now : Int) : (past r now).length + (left r now).length = r.length := by
  rw [(past_perm r now).length_eq]
  unfold left
  induction r with
  | nil => rfl
  | cons p r ih =>
    rw [List.filter_cons, List.filter_cons, List.length_cons]
    by_cases h : p.2.2 ≤ now
    · have : ¬ now < p.2.2 := by omega
      simp only [h, this, decide_true, decide_false, if_true, Bool.false_eq_true, if_false, List.length_cons]
      omega
    · have : now < p.2.2 := by omega
      simp only [h, this, decide_true, decide_false, if_true, Bool.false_eq_true, if_false, List.length_cons]
      omega
end
end Go.Proofs.Ytehkhopkedbngaa
