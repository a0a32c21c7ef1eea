/- Put together: A heap of things with times, and where each is: what moving one up, or down, does to it; what it holds, in order. Plain lists; no program in it. · What a timer is in memory; (*Timer).put by its contract. · timer.order by its contract (cmp.Compare and cmp.Or walked by hand). · (*Timer).up and .down by their contracts. · (*Timer).down by its contract. · A timer by what it holds, in order; New, Len, Next, At, Set by their contracts. · (*Timer).Set by its contract. · (*Timer).Drop by its contract. · slices.Clone at a timer's row, maps.Clone, (*Timer).Copy by their contracts. · (*Timer).Due by its contract. · timer.Timer.All: slices.SortFunc at items, by the shelf's contract. · A timer among what a law holds: what each call leaves. -/
import Derived.Test.YtipdleiginnjmaaGreatDoorH1
import Derived.Test.YtipdleiginnjmaaGreatDoorWShare
import Derived.Deep.RegionHeld3
import Derived.Deep.QuietTactic
import Derived.BigQuiet
import Derived.Shelf.SlSortCmp.QuietGrown
import Derived.Shelf.SlMaps.Clone
import Derived.Deep.LoopGhost
import Derived.Test.YtipdleiginnjmaaGreatDoorShelfSortIt
import Derived.Shelf.SlSortCmp.WholeK
import Derived.Shelf.SlSortCmp.NoneTotal
set_option linter.unusedVariables false
set_option linter.unusedSimpArgs false
namespace Go.Proofs.YtipdleiginnjmaaGreatDoor

/-- A thing: its number, its time. -/
abbrev It := Int × Int
def tLt (a b : It) : Prop := a.2 < b.2 ∨ (a.2 = b.2 ∧ a.1 < b.1)
instance (a b : It) : Decidable (tLt a b) := by unfold tLt; infer_instance
theorem tLt_irrefl (a : It) : ¬ tLt a a := by unfold tLt; omega
theorem tLt_trans {a b c : It} (h : tLt a b) (k : tLt b c) : tLt a c := by unfold tLt at *; omega
theorem tLe_trans {a b c : It} (h : ¬ tLt b a) (k : ¬ tLt c b) : ¬ tLt c a := by unfold tLt at *; omega
theorem tLe_of_lt {a b : It} (h : tLt a b) : ¬ tLt b a := by unfold tLt at *; omega
theorem tLt_total {a b : It} (h : ¬ tLt a b) (k : ¬ tLt b a) : a = b := by
  unfold tLt at *
  obtain ⟨a1, a2⟩ := a
  obtain ⟨b1, b2⟩ := b
  simp only at h k
  rw [Prod.mk.injEq]
  omega

def Heap2 (l : List It) : Prop := ∀ i a b, 0 < i → l[i]? = some a → l[(i - 1) / 2]? = some b → ¬ tLt a b
/-- A heap but for the place k. -/
structure Hole (l : List It) (k : Nat) : Prop where
  far : ∀ i a b, 0 < i → i ≠ k → (i - 1) / 2 ≠ k → l[i]? = some a → l[(i - 1) / 2]? = some b → ¬ tLt a b
  near : ∀ c a b, 0 < k → 0 < c → (c - 1) / 2 = k → l[c]? = some a → l[(k - 1) / 2]? = some b → ¬ tLt a b

theorem set_at {l : List It} {k : Nat} {y : It} (h : k < l.length) : (l.set k y)[k]? = some y := by simp [h]
theorem set_off {l : List It} {k i : Nat} {y : It} (h : i ≠ k) : (l.set k y)[i]? = l[i]? := by rw [List.getElem?_set_ne (Ne.symm h)]

theorem Hole.up {l : List It} {k : Nat} {y : It} (h : Hole l k) (hk0 : 0 < k) (hk : k < l.length) (hy : l[(k - 1) / 2]? = some y) : Hole (l.set k y) ((k - 1) / 2) := by
  have hp : (k - 1) / 2 ≠ k := by omega
  constructor
  · intro i a b hi h1 h2 ha hb
    have hik : i ≠ k := fun e => h2 (by rw [e])
    rw [set_off hik] at ha
    by_cases e : (i - 1) / 2 = k
    · rw [e, set_at hk] at hb
      obtain rfl := Option.some.inj hb
      exact h.near i a _ hk0 hi e ha hy
    · rw [set_off e] at hb
      exact h.far i a b hi hik e ha hb
  · intro c a b hp0 hc0 hc ha hb
    have hpp : ((k - 1) / 2 - 1) / 2 ≠ k := by omega
    rw [set_off hpp] at hb
    have h1 := h.far ((k - 1) / 2) y b hp0 hp hpp hy hb
    by_cases e : c = k
    · subst e
      rw [set_at hk] at ha
      obtain rfl := Option.some.inj ha
      exact h1
    · rw [set_off e] at ha
      have h2 := h.far c a y hc0 e (by rw [hc]; exact hp) ha (by rw [hc]; exact hy)
      exact tLe_trans h1 h2
theorem Hole.down {l : List It} {k c : Nat} {y : It} (h : Hole l k) (hk : k < l.length) (hc0 : 0 < c) (hc : (c - 1) / 2 = k) (hy : l[c]? = some y) (hs : ∀ d z, 0 < d → (d - 1) / 2 = k → l[d]? = some z → ¬ tLt z y) : Hole (l.set k y) c := by
  have hck : c ≠ k := by omega
  constructor
  · intro i a b hi h1 h2 ha hb
    by_cases e : (i - 1) / 2 = k
    · have hik : i ≠ k := by omega
      rw [set_off hik] at ha
      rw [e, set_at hk] at hb
      obtain rfl := Option.some.inj hb
      exact hs i a hi e ha
    · rw [set_off e] at hb
      by_cases e2 : i = k
      · subst e2
        rw [set_at hk] at ha
        obtain rfl := Option.some.inj ha
        exact h.near c _ b hi hc0 hc hy hb
      · rw [set_off e2] at ha
        exact h.far i a b hi e2 e ha hb
  · intro d a b _ hd0 hd ha hb
    have hdk : d ≠ k := by omega
    rw [set_off hdk] at ha
    rw [hc, set_at hk] at hb
    obtain rfl := Option.some.inj hb
    exact h.far d a _ hd0 hdk (by omega) ha (by rw [hd]; exact hy)
theorem Hole.fill {l : List It} {k : Nat} {x : It} (h : Hole l k) (hx : l[k]? = some x) (hu : 0 < k → ∀ b, l[(k - 1) / 2]? = some b → ¬ tLt x b) (hd : ∀ c a, 0 < c → (c - 1) / 2 = k → l[c]? = some a → ¬ tLt a x) : Heap2 l := by
  intro i a b hi ha hb
  by_cases e : i = k
  · subst e
    rw [hx] at ha
    obtain rfl := Option.some.inj ha
    exact hu hi b hb
  · by_cases e2 : (i - 1) / 2 = k
    · rw [e2, hx] at hb
      obtain rfl := Option.some.inj hb
      exact hd i a hi e2 ha
    · exact h.far i a b hi e e2 ha hb
/-- A hole is one whatever stands in it. -/
theorem Hole.set {l : List It} {k : Nat} (x : It) (h : Hole l k) : Hole (l.set k x) k := by
  constructor
  · intro i a b hi h1 h2 ha hb
    rw [set_off h1] at ha
    rw [set_off h2] at hb
    exact h.far i a b hi h1 h2 ha hb
  · intro c a b h0 hc0 hc ha hb
    rw [set_off (by omega)] at ha
    rw [set_off (by omega)] at hb
    exact h.near c a b h0 hc0 hc ha hb
theorem Heap2.hole {l : List It} (h : Heap2 l) (k : Nat) : Hole l k := by
  constructor
  · intro i a b hi _ _ ha hb
    exact h i a b hi ha hb
  · intro c a b hk hc0 hc ha hb
    have hlt : k < l.length := by
      have := (List.getElem?_eq_some_iff.1 ha).1
      omega
    have hy : l[k]? = some l[k] := by simp [hlt]
    exact tLe_trans (h k _ b hk hy hb) (h c a _ hc0 ha (by rw [hc]; exact hy))
theorem Heap2.snoc {l : List It} (h : Heap2 l) (x : It) : Hole (l ++ [x]) l.length := by
  constructor
  · intro i a b hi h1 h2 ha hb
    have hl := (List.getElem?_eq_some_iff.1 ha).1
    rw [List.length_append, List.length_singleton] at hl
    rw [List.getElem?_append_left (by omega)] at ha hb
    exact h i a b hi ha hb
  · intro c a b _ _ hc ha _
    have hl := (List.getElem?_eq_some_iff.1 ha).1
    rw [List.length_append, List.length_singleton] at hl
    omega
theorem Heap2.take {l : List It} (h : Heap2 l) (n : Nat) : Heap2 (l.take n) := by
  intro i a b hi ha hb
  have hl := (List.getElem?_eq_some_iff.1 ha).1
  rw [List.length_take] at hl
  rw [List.getElem?_take_of_lt (by omega)] at ha hb
  exact h i a b hi ha hb

/-! ### where each is -/
def Pos (l : List It) (ps : List (Int × Int)) : Prop := ∀ id j : Int, mget ps id = some j ↔ ∃ m : Nat, j = m ∧ (l[m]?).map (·.1) = some id
structure PosB (l : List It) (ps : List (Int × Int)) (k : Nat) (x : It) : Prop where
  off : ∀ id : Int, id ≠ x.1 → ∀ j : Int, mget ps id = some j ↔ ∃ m : Nat, j = m ∧ m ≠ k ∧ (l[m]?).map (·.1) = some id
  one : ∀ m y, m ≠ k → l[m]? = some y → y.1 ≠ x.1
  has : (mget ps x.1).isSome = true
theorem Pos.inj {l : List It} {ps : List (Int × Int)} (h : Pos l ps) {m n : Nat} {a b : It} (ha : l[m]? = some a) (hb : l[n]? = some b) (e : a.1 = b.1) : m = n := by
  have h1 := (h a.1 m).2 ⟨m, rfl, by rw [ha]; rfl⟩
  have h2 := (h a.1 n).2 ⟨n, rfl, by rw [hb, e]; rfl⟩
  rw [h1] at h2
  have := Option.some.inj h2
  omega
theorem Pos.at {l : List It} {ps : List (Int × Int)} (h : Pos l ps) {id j : Int} (hj : mget ps id = some j) : ∃ (m : Nat) (t : Int), j = m ∧ l[m]? = some (id, t) ∧ m < l.length := by
  obtain ⟨m, rfl, hm⟩ := (h id j).1 hj
  obtain ⟨⟨i, t⟩, hx, rfl⟩ := Option.map_eq_some_iff.1 hm
  exact ⟨m, t, rfl, hx, (List.getElem?_eq_some_iff.1 hx).1⟩
theorem Pos.none {l : List It} {ps : List (Int × Int)} (h : Pos l ps) {id : Int} (hj : mget ps id = none) {m : Nat} {y : It} (hm : l[m]? = some y) : y.1 ≠ id := by
  intro e
  have := (h id m).2 ⟨m, rfl, by rw [hm, ← e]; rfl⟩
  rw [hj] at this
  cases this
theorem Pos.out {l : List It} {ps : List (Int × Int)} (h : Pos l ps) {k : Nat} {x : It} (hx : l[k]? = some x) : PosB l ps k x := by
  refine ⟨fun id hid j => ?_, fun m y hm hy e => hm (h.inj hy hx e), ?_⟩
  · rw [h id j]
    constructor
    · rintro ⟨m, rfl, hm⟩
      refine ⟨m, rfl, fun e => hid ?_, hm⟩
      rw [e, hx] at hm
      exact (Option.some.inj hm).symm
    · rintro ⟨m, rfl, _, hm⟩
      exact ⟨m, rfl, hm⟩
  · rw [(h x.1 k).2 ⟨k, rfl, by rw [hx]; rfl⟩]
    rfl
theorem PosB.move {l : List It} {ps : List (Int × Int)} {k p : Nat} {x y : It} (h : PosB l ps k x) (hy : l[p]? = some y) (hp : p ≠ k) (hk : k < l.length) : PosB (l.set k y) (mput ps y.1 k) p x := by
  have hyx := h.one p y hp hy
  refine ⟨fun id hid j => ?_, fun m z hm hz => ?_, ?_⟩
  · by_cases e : id = y.1
    · subst e
      rw [mget_put_same]
      constructor
      · intro hj
        refine ⟨k, (Option.some.inj hj).symm, Ne.symm hp, by rw [set_at hk]; rfl⟩
      · rintro ⟨m, rfl, hm, hm2⟩
        by_cases e2 : m = k
        · rw [e2]
        · rw [set_off e2] at hm2
          have h1 := (h.off y.1 hid m).2 ⟨m, rfl, e2, hm2⟩
          have h2 := (h.off y.1 hid p).2 ⟨p, rfl, hp, by rw [hy]; rfl⟩
          rw [h1] at h2
          have := Option.some.inj h2
          omega
    · rw [mget_put_other ps _ e, h.off id hid j]
      constructor
      · rintro ⟨m, rfl, hm, hm2⟩
        refine ⟨m, rfl, fun e2 => ?_, by rw [set_off hm]; exact hm2⟩
        rw [e2, hy] at hm2
        exact e (Option.some.inj hm2).symm
      · rintro ⟨m, rfl, hm, hm2⟩
        by_cases e2 : m = k
        · rw [e2, set_at hk] at hm2
          exact absurd (Option.some.inj hm2).symm e
        · rw [set_off e2] at hm2
          exact ⟨m, rfl, e2, hm2⟩
  · by_cases e2 : m = k
    · subst e2
      rw [set_at hk] at hz
      obtain rfl := Option.some.inj hz
      exact hyx
    · rw [set_off e2] at hz
      exact h.one m z e2 hz
  · rw [mget_put_other ps _ (Ne.symm hyx)]
    exact h.has
theorem PosB.has_at {l : List It} {ps : List (Int × Int)} {k p : Nat} {x y : It} (h : PosB l ps k x) (hy : l[p]? = some y) (hp : p ≠ k) : (mget ps y.1).isSome = true := by
  rw [(h.off y.1 (h.one p y hp hy) p).2 ⟨p, rfl, hp, by rw [hy]; rfl⟩]
  rfl
theorem PosB.fill {l : List It} {ps : List (Int × Int)} {k : Nat} {x : It} (h : PosB l ps k x) (hk : k < l.length) : Pos (l.set k x) (mput ps x.1 k) := by
  intro id j
  by_cases e : id = x.1
  · subst e
    rw [mget_put_same]
    constructor
    · intro hj
      exact ⟨k, (Option.some.inj hj).symm, by rw [set_at hk]; rfl⟩
    · rintro ⟨m, rfl, hm⟩
      by_cases e2 : m = k
      · rw [e2]
      · rw [set_off e2] at hm
        obtain ⟨y, hy, hyx⟩ := Option.map_eq_some_iff.1 hm
        exact absurd hyx (h.one m y e2 hy)
  · rw [mget_put_other ps _ e, h.off id e j]
    constructor
    · rintro ⟨m, rfl, hm, hm2⟩
      exact ⟨m, rfl, by rw [set_off hm]; exact hm2⟩
    · rintro ⟨m, rfl, hm⟩
      by_cases e2 : m = k
      · rw [e2, set_at hk] at hm
        exact absurd (Option.some.inj hm).symm e
      · rw [set_off e2] at hm
        exact ⟨m, rfl, e2, hm⟩
theorem Pos.nodup {l : List It} {ps : List (Int × Int)} (h : Pos l ps) : (l.map (·.1)).Nodup := by
  unfold List.Nodup
  rw [List.pairwise_iff_getElem]
  intro i j hi hj hij e
  rw [List.length_map] at hi hj
  rw [List.getElem_map, List.getElem_map] at e
  have h1 : l[i]? = some l[i] := by simp
  have h2 : l[j]? = some l[j] := by simp
  have := h.inj h1 h2 e
  omega
theorem Pos.set {l : List It} {ps : List (Int × Int)} (h : Pos l ps) {k : Nat} {id t : Int} (hk : l[k]? = some (id, t)) (t' : Int) : Pos (l.set k (id, t')) (mput ps id k) := by
  have hb := h.out hk
  have hl := (List.getElem?_eq_some_iff.1 hk).1
  exact (PosB.fill (x := (id, t')) ⟨hb.off, hb.one, hb.has⟩ hl)
theorem Pos.snoc {l : List It} {ps : List (Int × Int)} (h : Pos l ps) {id : Int} (hn : mget ps id = .none) (t : Int) : Pos (l ++ [(id, t)]) (mput ps id l.length) := by
  intro id' j
  by_cases e : id' = id
  · subst e
    rw [mget_put_same]
    constructor
    · intro hj
      exact ⟨l.length, (Option.some.inj hj).symm, by simp⟩
    · rintro ⟨m, rfl, hm⟩
      by_cases hl : m < l.length
      · rw [List.getElem?_append_left hl] at hm
        obtain ⟨y, hy, hyx⟩ := Option.map_eq_some_iff.1 hm
        exact absurd hyx (h.none hn hy)
      · by_cases e2 : m = l.length
        · rw [e2]
        · rw [List.getElem?_eq_none (by simp; omega)] at hm
          cases hm
  · rw [mget_put_other ps _ e, h id' j]
    constructor
    · rintro ⟨m, rfl, hm⟩
      obtain ⟨y, hy, hyx⟩ := Option.map_eq_some_iff.1 hm
      have hl := (List.getElem?_eq_some_iff.1 hy).1
      exact ⟨m, rfl, by rw [List.getElem?_append_left hl]; exact hm⟩
    · rintro ⟨m, rfl, hm⟩
      by_cases hl : m < l.length
      · rw [List.getElem?_append_left hl] at hm
        exact ⟨m, rfl, hm⟩
      · by_cases e2 : m = l.length
        · subst e2
          simp at hm
          exact absurd hm.symm e
        · rw [List.getElem?_eq_none (by simp; omega)] at hm
          cases hm
theorem Pos.length {l : List It} {ps : List (Int × Int)} (h : Pos l ps) (hn : (ps.map (·.1)).Nodup) : ps.length = l.length := by
  have h1 : ∀ id, id ∈ ps.map (·.1) ↔ id ∈ l.map (·.1) := by
    intro id
    constructor
    · intro hi
      obtain ⟨p, hp, rfl⟩ := List.mem_map.1 hi
      obtain ⟨m, t, _, hm, _⟩ := h.at (mget_mem hn hp)
      exact List.mem_map.2 ⟨_, List.mem_of_getElem? hm, rfl⟩
    · intro hi
      obtain ⟨y, hy, rfl⟩ := List.mem_map.1 hi
      obtain ⟨m, hm⟩ := List.getElem?_of_mem hy
      have := (h y.1 m).2 ⟨m, rfl, by rw [hm]; rfl⟩
      exact List.mem_map.2 ⟨_, mget_some this, rfl⟩
  have h2 : (ps.map (·.1)).Perm (l.map (·.1)) := (List.perm_ext_iff_of_nodup hn h.nodup).2 h1
  simpa using h2.length_eq
theorem perm_swap {l : List It} {k p : Nat} {x y : It} (hk : k < l.length) (hy : l[p]? = some y) (hp : p ≠ k) : ((l.set k y).set p x).Perm (l.set k x) := by
  have hpl := (List.getElem?_eq_some_iff.1 hy).1
  have h := @List.set_set_perm It (l.set k x) k p (by simpa using hk) (by simpa using hpl)
  have e1 : (l.set k x)[p]'(by simpa using hpl) = y := by
    have : (l.set k x)[p]? = some y := by rw [set_off hp, hy]
    exact (List.getElem?_eq_some_iff.1 this).2
  have e2 : (l.set k x)[k]'(by simpa using hk) = x := by simp
  rw [e1, e2, List.set_set] at h
  exact h
theorem Pos.take {l : List It} {ps : List (Int × Int)} (h : Pos l ps) {n : Nat} (hl : l.length = n + 1) {y : It} (hy : l[n]? = some y) : Pos (l.take n) (mdel ps y.1) := by
  intro id j
  by_cases e : id = y.1
  · subst e
    rw [mget_del_same]
    constructor
    · intro hj; cases hj
    · rintro ⟨m, rfl, hm⟩
      obtain ⟨z, hz, hzy⟩ := Option.map_eq_some_iff.1 hm
      have hml := (List.getElem?_eq_some_iff.1 hz).1
      rw [List.length_take] at hml
      rw [List.getElem?_take_of_lt (by omega)] at hz
      have := h.inj hz hy hzy
      omega
  · rw [mget_del_other ps e, h id j]
    constructor
    · rintro ⟨m, rfl, hm⟩
      obtain ⟨z, hz, hzy⟩ := Option.map_eq_some_iff.1 hm
      have hml := (List.getElem?_eq_some_iff.1 hz).1
      have hmn : m ≠ n := fun e2 => by
        rw [e2, hy] at hz
        exact e (by rw [← hzy, Option.some.inj hz])
      exact ⟨m, rfl, by rw [List.getElem?_take_of_lt (by omega)]; exact hm⟩
    · rintro ⟨m, rfl, hm⟩
      obtain ⟨z, hz, hzy⟩ := Option.map_eq_some_iff.1 hm
      have hml := (List.getElem?_eq_some_iff.1 hz).1
      rw [List.length_take] at hml
      rw [List.getElem?_take_of_lt (by omega)] at hm
      exact ⟨m, rfl, hm⟩
/-- The last one takes the place of one that goes. -/
theorem Pos.swapOut {l : List It} {ps : List (Int × Int)} (h : Pos l ps) {n k : Nat} (hl : l.length = n + 1) {y x : It} (hy : l[n]? = some y) (hx : l[k]? = some x) (hk : k ≠ n) : Pos ((l.take n).set k y) (mput (mdel ps x.1) y.1 k) := by
  have hkl := (List.getElem?_eq_some_iff.1 hx).1
  have hyx : y.1 ≠ x.1 := fun e => hk (h.inj hx hy e.symm)
  have hkt : k < (l.take n).length := by rw [List.length_take]; omega
  intro id j
  by_cases e : id = y.1
  · subst e
    rw [mget_put_same]
    constructor
    · intro hj
      exact ⟨k, (Option.some.inj hj).symm, by rw [set_at hkt]; rfl⟩
    · rintro ⟨m, rfl, hm⟩
      by_cases e2 : m = k
      · rw [e2]
      · rw [set_off e2] at hm
        obtain ⟨z, hz, hzy⟩ := Option.map_eq_some_iff.1 hm
        have hml := (List.getElem?_eq_some_iff.1 hz).1
        rw [List.length_take] at hml
        rw [List.getElem?_take_of_lt (by omega)] at hz
        have := h.inj hz hy hzy
        omega
  · rw [mget_put_other _ _ e]
    by_cases e1 : id = x.1
    · subst e1
      rw [mget_del_same]
      constructor
      · intro hj; cases hj
      · rintro ⟨m, rfl, hm⟩
        by_cases e2 : m = k
        · rw [e2, set_at hkt] at hm
          exact absurd (Option.some.inj hm) hyx
        · rw [set_off e2] at hm
          obtain ⟨z, hz, hzy⟩ := Option.map_eq_some_iff.1 hm
          have hml := (List.getElem?_eq_some_iff.1 hz).1
          rw [List.length_take] at hml
          rw [List.getElem?_take_of_lt (by omega)] at hz
          exact absurd (h.inj hz hx hzy) e2
    · rw [mget_del_other ps e1, h id j]
      constructor
      · rintro ⟨m, rfl, hm⟩
        obtain ⟨z, hz, hzy⟩ := Option.map_eq_some_iff.1 hm
        have hml := (List.getElem?_eq_some_iff.1 hz).1
        have hmn : m ≠ n := fun e2 => by
          rw [e2, hy] at hz
          exact e (by rw [← hzy, Option.some.inj hz])
        have hmk : m ≠ k := fun e2 => by
          rw [e2, hx] at hz
          exact e1 (by rw [← hzy, Option.some.inj hz])
        exact ⟨m, rfl, by rw [set_off hmk, List.getElem?_take_of_lt (by omega)]; exact hm⟩
      · rintro ⟨m, rfl, hm⟩
        by_cases e2 : m = k
        · rw [e2, set_at hkt] at hm
          exact absurd (Option.some.inj hm).symm e
        · rw [set_off e2] at hm
          obtain ⟨z, hz, hzy⟩ := Option.map_eq_some_iff.1 hm
          have hml := (List.getElem?_eq_some_iff.1 hz).1
          rw [List.length_take] at hml
          rw [List.getElem?_take_of_lt (by omega)] at hm
          exact ⟨m, rfl, hm⟩

/-! ### what it holds, in order -/
def tDrop (s : List It) (id : Int) : List It := s.filter (fun p => decide (p.1 ≠ id))
def tIns (s : List It) (x : It) : List It := s.takeWhile (fun p => !decide (tLt x p)) ++ x :: s.dropWhile (fun p => !decide (tLt x p))
def tSet (s : List It) (id t : Int) : List It := tIns (tDrop s id) (id, t)
def tRow (s : List It) : Prop := s.Pairwise tLt ∧ (s.map (·.1)).Nodup
theorem tIns_nil (x : It) : tIns [] x = [x] := rfl
theorem tIns_cons (p : It) (s : List It) (x : It) : tIns (p :: s) x = if tLt x p then x :: p :: s else p :: tIns s x := by
  unfold tIns
  by_cases h : tLt x p <;> simp [h]
theorem tIns_perm (s : List It) (x : It) : (tIns s x).Perm (x :: s) := by
  unfold tIns
  refine List.perm_middle.trans (List.Perm.cons _ ?_)
  rw [List.takeWhile_append_dropWhile]
theorem tIns_sorted {s : List It} (h : s.Pairwise tLt) {x : It} (hx : ∀ p ∈ s, p ≠ x) : (tIns s x).Pairwise tLt := by
  induction s with
  | nil => simp [tIns_nil]
  | cons p s ih =>
    rw [List.pairwise_cons] at h
    rw [tIns_cons]
    by_cases hp : tLt x p
    · rw [if_pos hp]
      refine List.pairwise_cons.2 ⟨fun q hq => ?_, List.pairwise_cons.2 h⟩
      rcases List.mem_cons.1 hq with rfl | hq
      · exact hp
      · exact tLt_trans hp (h.1 q hq)
    · rw [if_neg hp]
      refine List.pairwise_cons.2 ⟨fun q hq => ?_, ih h.2 (fun q hq => hx q (List.mem_cons_of_mem _ hq))⟩
      rcases List.mem_cons.1 ((tIns_perm s x).mem_iff.1 hq) with rfl | hq
      · by_cases h2 : tLt p q
        · exact h2
        · exact absurd (tLt_total h2 hp) (hx p (by simp))
      · exact h.1 q hq
theorem tDrop_row {s : List It} (h : tRow s) (id : Int) : tRow (tDrop s id) := ⟨h.1.filter _, (List.Sublist.map _ List.filter_sublist).nodup h.2⟩
theorem tDrop_not {s : List It} {id : Int} {p : It} (h : p ∈ tDrop s id) : p.1 ≠ id := by simpa using (List.mem_filter.1 h).2
theorem tSet_row {s : List It} (h : tRow s) (id t : Int) : tRow (tSet s id t) := by
  have hd := tDrop_row h id
  refine ⟨tIns_sorted hd.1 (fun p hp e => tDrop_not hp (by rw [e])), ?_⟩
  have := ((tIns_perm (tDrop s id) (id, t)).map (·.1)).nodup_iff.2 (by
    rw [List.map_cons, List.nodup_cons]
    refine ⟨fun hm => ?_, hd.2⟩
    obtain ⟨p, hp, e⟩ := List.mem_map.1 hm
    exact tDrop_not hp e)
  exact this
theorem row_unique {s s' : List It} (h : s.Pairwise tLt) (h' : s'.Pairwise tLt) (hp : s.Perm s') : s = s' :=
  hp.eq_of_pairwise (le := tLt) (fun a _ _ _ h1 h2 => absurd (tLt_trans h1 h2) (tLt_irrefl a)) h h'
theorem drop_of_pos {l : List It} (hn : (l.map (·.1)).Nodup) {k : Nat} {x : It} (hx : l[k]? = some x) : (tDrop l x.1) = l.eraseIdx k := by
  induction l generalizing k with
  | nil => simp at hx
  | cons p l ih =>
    rw [List.map_cons, List.nodup_cons] at hn
    cases k with
    | zero =>
      have hx : p = x := by simpa using hx
      subst hx
      rw [List.eraseIdx_zero, List.tail_cons, tDrop, List.filter_cons]
      simp only [ne_eq, not_true, decide_false, Bool.false_eq_true, if_false]
      refine List.filter_eq_self.2 (fun q hq => ?_)
      simp only [decide_eq_true_eq]
      exact fun e => hn.1 (by rw [← e]; exact List.mem_map_of_mem hq)
    | succ k =>
      have hx : l[k]? = some x := by simpa using hx
      have hne : p.1 ≠ x.1 := fun e => hn.1 (by rw [e]; exact List.mem_map_of_mem (List.mem_of_getElem? hx))
      rw [List.eraseIdx_cons_succ, ← ih hn.2 hx, tDrop, List.filter_cons]
      simp only [ne_eq, hne, not_false_iff, decide_true, if_true]
      rfl
theorem drop_none {l : List It} {id : Int} (h : ∀ p ∈ l, p.1 ≠ id) : tDrop l id = l := List.filter_eq_self.2 (fun p hp => by simpa using h p hp)
theorem eraseIdx_set_perm {l : List It} {n k : Nat} (hl : l.length = n + 1) {y : It} (hy : l[n]? = some y) (hk : k < n) : ((l.take n).set k y).Perm (l.eraseIdx k) := by
  have e : l = l.take n ++ [y] := by
    conv => lhs; rw [← List.take_append_drop n l]
    congr 1
    rw [List.drop_eq_getElem_cons (by omega), List.drop_eq_nil_of_le (by omega)]
    rw [(List.getElem?_eq_some_iff.1 hy).2]
  have hlt : (l.take n).length = n := by rw [List.length_take]; omega
  generalize l.take n = q at e hlt ⊢
  subst e
  rw [List.eraseIdx_append_of_lt_length (by omega)]
  rw [List.set_eq_take_append_cons_drop, if_pos (by omega), List.eraseIdx_eq_take_drop_succ, List.append_assoc]
  exact List.Perm.append_left _ (List.perm_append_comm (l₁ := [y]) (l₂ := q.drop (k + 1)))
theorem set_perm_of {l : List It} {k : Nat} {x y : It} (hx : l[k]? = some x) : (l.set k y).Perm (y :: l.eraseIdx k) := by
  have hk := (List.getElem?_eq_some_iff.1 hx).1
  rw [List.set_eq_take_append_cons_drop, if_pos hk, List.eraseIdx_eq_take_drop_succ]
  exact List.perm_middle
theorem head_min {l s : List It} (h : Heap2 l) (hp : l.Perm s) (hs : s.Pairwise tLt) : l[0]? = s[0]? := by
  have hmin : ∀ (i : Nat) (a b : It), l[i]? = some a → l[0]? = some b → ¬ tLt a b := by
    intro i
    induction i using Nat.strongRecOn with
    | _ i ih =>
      intro a b ha hb
      by_cases h0 : i = 0
      · subst h0
        rw [ha] at hb
        obtain rfl := Option.some.inj hb
        exact tLt_irrefl _
      · have hl := (List.getElem?_eq_some_iff.1 ha).1
        have hc : l[(i - 1) / 2]? = some (l[(i - 1) / 2]'(by omega)) := List.getElem?_eq_getElem (by omega)
        exact tLe_trans (ih ((i - 1) / 2) (by omega) _ b hc hb) (h i a _ (by omega) ha hc)
  cases s with
  | nil => rw [List.perm_nil.1 hp]
  | cons x s =>
    have hx : x ∈ l := hp.mem_iff.2 (by simp)
    obtain ⟨i, hi⟩ := List.getElem?_of_mem hx
    have hl := (List.getElem?_eq_some_iff.1 hi).1
    have hb : l[0]? = some (l[0]'(by omega)) := List.getElem?_eq_getElem (by omega)
    have h1 := hmin i x _ hi hb
    rw [List.pairwise_cons] at hs
    rcases List.mem_cons.1 (hp.mem_iff.1 (List.mem_of_getElem? hb)) with e | hm
    · rw [hb, e]
      rfl
    · exact absurd (hs.1 _ hm) h1
end Go.Proofs.YtipdleiginnjmaaGreatDoor
namespace Go.Proofs.YtipdleiginnjmaaGreatDoor
open Go.RowKit Go.Maps Go.Proofs.YtipdleiginnjmaaGreatDoorW.PrintWords

theorem info_item : (Tryz.prog.info? 245).map (fun i => (i.zero, i.size, i.bytes)) = some (some (.agg #[.int .i64 0, .int .i64 0]), 2, 16) := by kernel_rfl
def KIt : Kd It := Kd.pair (Kd.int .i64) (Kd.int .i64)
theorem KIt_cells {w : World} {base : Nat} {ok : Nat → Prop} {x : It} {c : List Value} (h : KIt.M w base ok x c) : c = [.int .i64 x.1, .int .i64 x.2] := by
  obtain ⟨c0, c1, rfl, h0, h1⟩ := h
  have h0 : c0 = [.int .i64 x.1] := h0
  have h1 : c1 = [.int .i64 x.2] := h1
  rw [h0, h1]
  rfl
theorem KIt_of (w : World) (base : Nat) (ok : Nat → Prop) (x : It) : KIt.M w base ok x [.int .i64 x.1, .int .i64 x.2] := ⟨[.int .i64 x.1], [.int .i64 x.2], rfl, rfl, rfl⟩
noncomputable def KTI : KeyKd Tryz.prog 3 Int := intKey Tryz.underlying3
theorem under_map : Tryz.prog.underlying 241 = some (.map 3 3) := Tryz.underlying241
theorem zero_int (w : World) : (zeroValue 3).run Tryz.prog w = .ok (.int .i64 0) w := by kernel_rfl

/-- A timer (its block tb, its row v, its map's block mb): the heap l, and where each is. -/
structure TmV (w : World) (ok : Nat → Prop) (tb : Nat) (v : Value) (mb : Nat) (l : List It) (ps : List (Int × Int)) : Prop where
  hd : w.heap[tb]? = some (.cells #[v, .map (some mb)] 243 (0, 0))
  row : KIt.R 245 w 0 (fun k => ok k ∧ k ≠ tb ∧ k ≠ mb) v l
  map : MapAt KTI (.int .i64) w mb ps
  oktb : ok tb
  okmb : ok mb
theorem TmV.move {w w' : World} {ok : Nat → Prop} {tb : Nat} {v : Value} {mb : Nat} {l : List It} {ps : List (Int × Int)} (h : TmV w ok tb v mb l ps) (hm : ∀ k, ok k → k < w.heap.size → w'.heap[k]? = w.heap[k]?) : TmV w' ok tb v mb l ps :=
  ⟨(hm tb h.oktb (blk_lt h.hd)).trans h.hd, Kd.R_step h.row (fun k hk hl => hm k hk.1 hl), h.map.move (hm mb h.okmb h.map.lt), h.oktb, h.okmb⟩
theorem TmV.ne {w : World} {ok : Nat → Prop} {tb : Nat} {v : Value} {mb : Nat} {l : List It} {ps : List (Int × Int)} (h : TmV w ok tb v mb l ps) : mb ≠ tb := h.map.ne_cells h.hd

set_option maxHeartbeats 400000 in
theorem put_any (w : World) (ok : Nat → Prop) (tb : Nat) (v : Value) (mb : Nat) (l : List It) (ps : List (Int × Int)) (k : Nat) (x : It) (h : TmV w ok tb v mb l ps) (hk : k < l.length) (hx : (Lit.int .i64 x.1).wf = true) (hps : ps.length < maxLen) :
    Calls Tryz.prog 200 #[.pointer (some ⟨tb, 0, none⟩), .int .i64 (k : Int), .agg #[.int .i64 x.1, .int .i64 x.2]] w fun e w' => e = .returned (.tuple #[]) ∧ TmV w' ok tb v mb (l.set k x) (mput ps x.1 k) ∧ Keep (fun k => k = mb ∨ v.ownBlock = some k) w w' := by
  obtain ⟨g, cap, rfl, _, hgl, cells, hg⟩ := Kd.R_form h.row (by omega)
  obtain ⟨c, hcl, hM, hcc, hcf⟩ := Kd.R_elem h.row (0, 0) (k : Int) (by omega) (by omega)
  have hc := KIt_cells hM
  subst hc
  have hsz : KIt.sz = 2 := rfl
  rw [hsz] at hcc hcf
  simp only [Int.toNat_natCast] at hcc hcf
  have e0 : w.cell? ⟨g, k * 2, none⟩ = _ := hcc 0 _ rfl
  have e1 := hcc 1 _ rfl
  have f0 : w.frozen? ⟨g, k * 2, none⟩ = false := hcf 0
  have f1 := hcf 1
  have t0 := blk_cell h.hd 0
  have t1 := blk_cell h.hd 1
  simp only [List.getElem?_toArray, List.getElem?_cons_succ, List.getElem?_cons_zero] at t0 t1
  have hmax := Kd.C_max (Kd.R_reads' h.row).2.2
  have i0 : (0 : Int) ≤ (k : Int) := by omega
  have i1 : (k : Int) < (l.length : Int) := by omega
  have htl := blk_lt h.hd
  have hml := h.map.lt
  have H := Lib.hid h
  clear h hg hcc hcf hM hcl
  go_enter Tryz.func200, Tryz.ntmps200
  go_wp2_with fail
  go_region
  have hseg := Kd.R_seg H.out.row (k : Int) (by omega) i1 (c := [.int .i64 (l.getD k (0, 0)).1, .int .i64 (l.getD k (0, 0)).2]) (seg := [.int .i64 x.1, .int .i64 x.2]) (j := 0) rfl (by
    intro j u hu
    rw [hsz, Int.toNat_natCast]
    match j, hu with
    | 0, hu => rw [← Option.some.inj hu]; exact e0
    | 1, hu => rw [← Option.some.inj hu]; exact e1
    | j + 2, hu => simp at hu) (by show 0 + 2 ≤ 2; omega) (x' := x) (by exact KIt_of w 0 (fun k' => (ok k' ∧ k' ≠ tb ∧ k' ≠ mb) ∧ k' ≠ g) x) (fun _ h => h)
  simp only [hsz, Int.toNat_natCast] at hseg
  obtain ⟨hR1, hG1⟩ := hseg
  have hokg : ok g ∧ g ≠ tb ∧ g ≠ mb := H.out.row.1 g rfl
  obtain ⟨W2, hW2⟩ : ∃ W2, W2 = (((w.setCell ⟨g, k * 2, none⟩ (.int .i64 x.1)).setCell ⟨g, k * 2 + 1, none⟩ (.int .i64 x.2)).alloc (.cells #[.int .i64 x.1, .int .i64 x.2] 245)).drew := ⟨_, rfl⟩
  rw [← hW2]
  have hz1 : ((w.setCell ⟨g, k * 2, none⟩ (.int .i64 x.1)).setCell ⟨g, k * 2 + 1, none⟩ (.int .i64 x.2)).heap.size = w.heap.size := by simp [World.setCell]
  have hB2 : Below w.heap.size ((w.setCell ⟨g, k * 2, none⟩ (.int .i64 x.1)).setCell ⟨g, k * 2 + 1, none⟩ (.int .i64 x.2)) W2 := by
    rw [hW2]
    exact ((Below.refl _ _).alloc (by rw [hz1]; exact Nat.le_refl _) _).drew
  have hm2 : ∀ k', k' ≠ g → k' < w.heap.size → W2.heap[k']? = w.heap[k']? := fun k' h1 h2 => (hB2.block k' h2).trans (hG1.block k' h2 (fun e => h1 (Option.some.inj e)))
  have hhd2 : W2.heap[tb]? = _ := (hm2 tb (Ne.symm hokg.2.1) htl).trans H.out.hd
  have hmp2 : MapAt KTI (.int .i64) W2 mb ps := H.out.map.move (hm2 mb (Ne.symm hokg.2.2) hml)
  have hR2 : KIt.R 245 W2 0 (fun k => ok k ∧ k ≠ tb ∧ k ≠ mb) (.slice (some ⟨g, 0, none⟩) l.length cap) (l.set k x) := Kd.R_step hR1 (fun k' _ hl => hB2.block k' (by rw [← hz1]; exact hl))
  have hbx : W2.heap[w.heap.size]? = some (.cells #[.int .i64 x.1, .int .i64 x.2] 245 (0, 0)) := by
    rw [hW2, ← hz1]
    exact heap_alloc_new _ _
  have hsz2 : W2.heap.size = w.heap.size + 1 := by rw [hW2]; simp [World.setCell]
  obtain ⟨W3, hrun, hM3, hB3⟩ := (show MapAt KTI (.int .i64) W2.drew mb ps from hmp2).put under_map hps (a := x.1) hx (k : Int)
  have hrun : (Instr.mapUpdate 241 (.map (some mb)) (.int .i64 x.1) (.int .i64 (k : Int))).run Tryz.prog W2.drew = .ok () W3 := hrun
  have t0 := blk_cell hhd2 0
  have t1 := blk_cell hhd2 1
  have b0 := blk_cell hbx 0
  simp only [List.getElem?_toArray, List.getElem?_cons_succ, List.getElem?_cons_zero] at t0 t1 b0
  have HW2 := Lib.hid hW2
  have HSZ := Lib.hid hsz2
  have hhd2' := Lib.hid hhd2
  clear hW2 hz1 e0 e1 f0 f1 hhd2 hbx hsz2 hsz
  go_wp2_with fail
  go_region
  go_end0
  have hs := HSZ.out
  refine ⟨rfl, ⟨hB3.blk hhd2'.out (Ne.symm H.out.ne), Kd.R_step hR2 (fun k' h1 _ => hB3.2.2.2.2 k' h1.2.2), hM3, H.out.oktb, H.out.okmb⟩, ?_⟩
  refine ⟨?_, ?_, ?_, ?_, fun k' h1 h2 => ?_⟩
  · exact hB3.1.trans (hB2.os.trans hG1.os)
  · exact hB3.2.1.trans (hB2.tape.trans hG1.tape)
  · exact hB3.2.2.1.trans (hB2.output.trans hG1.output)
  · rw [hB3.2.2.2.1]; show w.heap.size ≤ W2.heap.size; rw [hs]; omega
  · exact (hB3.2.2.2.2 k' (fun e => h2 (.inl e))).trans (hm2 k' (fun e => h2 (.inr (by rw [e]; rfl))) h1)
end Go.Proofs.YtipdleiginnjmaaGreatDoor
namespace Go.Proofs.YtipdleiginnjmaaGreatDoor
open Go.RowKit Go.Sort Go.Proofs.YtipdleiginnjmaaGreatDoorW.PrintWords

def ordI (a b : It) : Int := orI (cmpI a.2 b.2) (cmpI a.1 b.1)
theorem ordI_lt (a b : It) : ordI a b < 0 ↔ tLt a b := by
  unfold ordI orI cmpI tLt
  repeat' split
  all_goals omega
theorem ordI_le (a b : It) : ordI a b ≤ 0 ↔ ¬ tLt b a := by
  unfold ordI orI cmpI tLt
  repeat' split
  all_goals omega
theorem compare_any (a b : Int) (w : World) : Calls Tryz.prog 179 #[.int .i64 a, .int .i64 b] w fun e w' => e = .returned (.int .i64 (cmpI a b)) ∧ Drawn0 w w' :=
  Calls.mono (cmpInt_any a b w) fun _ _ h => ⟨h.1, ⟨0, h.2 ▸ rfl⟩⟩
theorem heap_new_at (w : World) (o : Obj) (n : Nat) (hn : n = w.heap.size) : (w.alloc o).heap[n]? = some o := by
  subst hn
  exact heap_alloc_new w o
theorem or_blk (g t : Nat) (a b : Int) (w : World) (hg : w.heap[g]? = some (.cells #[.int .i64 a, .int .i64 b] t (0, 0))) : Calls Tryz.prog 195 #[.slice (some ⟨g, 0, none⟩) 2 2] w fun e w' => e = .returned (.int .i64 (orI a b)) ∧ Drawn0 w w' :=
  Calls.mono (orInt_any g t a b w hg) fun _ _ h => ⟨h.1, ⟨0, h.2 ▸ rfl⟩⟩
/-- w' is w behind some draws, with some blocks laid behind it. -/
def Gr (w w' : World) : Prop := ∃ q os', w' = grow (w.drewN q) os'
theorem Gr.refl (w : World) : Gr w w := ⟨0, #[], by rw [grow_empty]; rfl⟩
theorem Gr.alloc {w w' : World} (h : Gr w w') (o : Obj) : Gr w (w'.alloc o) := by
  obtain ⟨q, os, rfl⟩ := h
  exact ⟨q, os ++ #[o], by rw [alloc_eq_grow, grow_grow]⟩
theorem Gr.drewN {w w' : World} (h : Gr w w') (n : Nat) : Gr w (w'.drewN n) := by
  obtain ⟨q, os, rfl⟩ := h
  exact ⟨q + n, os, by rw [← World.drewN_drewN]; rfl⟩
theorem Gr.below {w w' : World} (h : Gr w w') : Below w.heap.size w w' := by
  obtain ⟨q, os, rfl⟩ := h
  refine ⟨rfl, rfl, rfl, ?_, fun k hk => ?_⟩
  · show w.heap.size ≤ (w.heap ++ os).size
    simp
  · show (w.heap ++ os)[k]? = w.heap[k]?
    rw [Array.getElem?_append_left hk]
set_option maxHeartbeats 800000 in
theorem order_any (a b : It) (w : World) : Calls Tryz.prog 224 #[.agg #[.int .i64 a.1, .int .i64 a.2], .agg #[.int .i64 b.1, .int .i64 b.2]] w fun e w' => e = .returned (.int .i64 (ordI a b)) ∧ Gr w w' := by
  go_enter Tryz.func224, Tryz.ntmps224
  go_wp2_with fail
  go_region_held3 (fun w' => w'.cell? ⟨w.heap.size, 0, none⟩ = some (.int .i64 a.1) ∧ w'.cell? ⟨w.heap.size, 1, none⟩ = some (.int .i64 a.2) ∧ w'.cell? ⟨w.heap.size + 1, 0, none⟩ = some (.int .i64 b.1) ∧ w'.cell? ⟨w.heap.size + 1, 1, none⟩ = some (.int .i64 b.2)) (go_keep) (first | (go_at_call 179; refine (compare_any _ _ _).mono ?_; rintro e w' ⟨rfl, ⟨nd, rfl⟩⟩) | (go_at_call 195; refine (or_blk _ _ _ _ _ (by refine heap_new_at _ _ _ ?_; simp)).mono ?_; rintro e w' ⟨rfl, ⟨nd2, rfl⟩⟩))
  all_goals
    go_wp2
    go_ret
    exact ⟨rfl, (((((Gr.refl w).alloc _).alloc _).drewN _).alloc _).drewN _⟩
end Go.Proofs.YtipdleiginnjmaaGreatDoor
namespace Go.Proofs.YtipdleiginnjmaaGreatDoor
open Go.RowKit Go.Sort Go.BigFrame Go.Proofs.YtipdleiginnjmaaGreatDoorW.PrintWords

/-- What a timer's call may turn: its map, its row. -/
def TmS (v : Value) (mb : Nat) : Nat → Prop := fun k => k = mb ∨ v.ownBlock = some k
def UpPost (ok : Nat → Prop) (tb : Nat) (v : Value) (mb : Nat) (l : List It) (ps : List (Int × Int)) (x : It) (w w' : World) : Prop :=
  ∃ (l' : List It) (ps' : List (Int × Int)) (k' : Nat), l'.Perm l ∧ Hole l' k' ∧ l'[k']? = some x ∧ (0 < k' → ∀ b, l'[(k' - 1) / 2]? = some b → ¬ tLt x b) ∧ Pos l' ps' ∧ ps'.length = ps.length ∧ TmV w' ok tb v mb l' ps' ∧ Keep (TmS v mb) w w'
structure UpRel (ok : Nat → Prop) (tb : Nat) (v : Value) (mb : Nat) (l : List It) (ps : List (Int × Int)) (x : It) (xb : Nat) (w : World) (k : Nat) (wr : World) (lc : List It) (pc : List (Int × Int)) : Prop where
  lt : k < lc.length
  len : lc.length = l.length
  hole : Hole lc k
  pos : PosB lc pc k x
  perm : (lc.set k x).Perm l
  plen : pc.length = ps.length
  tm : TmV wr ok tb v mb lc pc
  keep : Keep (TmS v mb) w wr
  box : wr.heap[xb]? = some (.cells #[.int .i64 x.1, .int .i64 x.2] 245 (0, 0))
theorem mput_plen {ps : List (Int × Int)} (hn : (ps.map (·.1)).Nodup) {a x : Int} (h : (mget ps a).isSome = true) : (mput ps a x).length = ps.length := by
  rw [mput_length hn, h]
  rfl
theorem UpRel.up {ok : Nat → Prop} {tb : Nat} {v : Value} {mb : Nat} {l : List It} {ps : List (Int × Int)} {x : It} {xb : Nat} {w : World} {k : Nat} {wr w2 : World} {lc : List It} {pc : List (Int × Int)} (h : UpRel ok tb v mb l ps x xb w k wr lc pc)
    (hk0 : 0 < k) {y : It} (hy : lc[(k - 1) / 2]? = some y) (h2 : TmV w2 ok tb v mb (lc.set k y) (mput pc y.1 k)) (hK : Keep (TmS v mb) wr w2) (hx : ¬ TmS v mb xb) : UpRel ok tb v mb l ps x xb w ((k - 1) / 2) w2 (lc.set k y) (mput pc y.1 k) := by
  have hp : (k - 1) / 2 ≠ k := by omega
  have hlt := h.lt
  refine ⟨by rw [List.length_set]; omega, by rw [List.length_set]; exact h.len, h.hole.up hk0 hlt hy, h.pos.move hy hp hlt, (perm_swap hlt hy hp).trans h.perm, (mput_plen h.tm.map.nodup (h.pos.has_at hy hp)).trans h.plen, h2, h.keep.trans (hK.mono (fun _ _ hs => .inl hs)), ?_⟩
  exact (hK.block xb (blk_lt h.box) hx).trans h.box
theorem UpRel.mem_of {ok : Nat → Prop} {tb : Nat} {v : Value} {mb : Nat} {l : List It} {ps : List (Int × Int)} {x : It} {xb : Nat} {w : World} {k : Nat} {wr : World} {lc : List It} {pc : List (Int × Int)} (h : UpRel ok tb v mb l ps x xb w k wr lc pc) {p : Nat} {y : It} (hy : lc[p]? = some y) (hp : p ≠ k) : y ∈ l := by
  have : (lc.set k x)[p]? = some y := by rw [set_off hp, hy]
  exact h.perm.mem_iff.1 (List.mem_of_getElem? this)
theorem UpRel.fill {ok : Nat → Prop} {tb : Nat} {v : Value} {mb : Nat} {l : List It} {ps : List (Int × Int)} {x : It} {xb : Nat} {w : World} {k : Nat} {wr w2 : World} {lc : List It} {pc : List (Int × Int)} (h : UpRel ok tb v mb l ps x xb w k wr lc pc)
    (hu : 0 < k → ∀ y, lc[(k - 1) / 2]? = some y → ¬ tLt x y) (h2 : TmV w2 ok tb v mb (lc.set k x) (mput pc x.1 k)) (hK : Keep (TmS v mb) wr w2) : UpPost ok tb v mb l ps x w w2 := by
  refine ⟨_, _, k, h.perm, h.hole.set x, set_at h.lt, fun hk b hb => ?_, h.pos.fill h.lt, (mput_plen h.tm.map.nodup h.pos.has).trans h.plen, h2, h.keep.trans (hK.mono (fun _ _ hs => .inl hs))⟩
  rw [set_off (by omega)] at hb
  exact hu hk b hb
/-- The cells of a timer's block, and of one element of its row. -/
theorem TmV.cells {w : World} {ok : Nat → Prop} {tb : Nat} {v : Value} {mb : Nat} {l : List It} {ps : List (Int × Int)} (h : TmV w ok tb v mb l ps) {k : Nat} {y : It} (hy : l[k]? = some y) :
    ∃ g cap, v = .slice (some ⟨g, 0, none⟩) l.length cap ∧ g < w.heap.size ∧ tb < w.heap.size ∧ w.cell? ⟨tb, 0, none⟩ = some (.slice (some ⟨g, 0, none⟩) l.length cap) ∧ w.cell? ⟨g, k * 2, none⟩ = some (.int .i64 y.1) ∧ w.cell? ⟨g, k * 2 + 1, none⟩ = some (.int .i64 y.2) ∧ l.length ≤ cap ∧ l.length ≤ 9223372036854775807 := by
  have hk := (List.getElem?_eq_some_iff.1 hy).1
  obtain ⟨g, cap, rfl, _, hgl, cells, hg⟩ := Kd.R_form h.row (by omega)
  obtain ⟨c, hcl, hM, hcc, hcf⟩ := Kd.R_elem h.row (0, 0) (k : Int) (by omega) (by omega)
  have hc := KIt_cells hM
  subst hc
  have hgd : l.getD (k : Int).toNat (0, 0) = y := by rw [Int.toNat_natCast, List.getD_eq_getElem?_getD, hy]; rfl
  rw [hgd] at hcc
  have hsz : KIt.sz = 2 := rfl
  rw [hsz] at hcc
  simp only [Int.toNat_natCast] at hcc
  have t0 := blk_cell h.hd 0
  obtain ⟨_, hcap, hC⟩ := Kd.R_reads' h.row
  exact ⟨g, cap, rfl, hgl, blk_lt h.hd, t0, hcc 0 _ rfl, hcc 1 _ rfl, hcap, Kd.C_max hC⟩

theorem Keep.undrewN {S : Nat → Prop} {w w' : World} {n : Nat} (h : Keep S (w.drewN n) w') : Keep S w w' := ⟨h.os, h.tape, h.output, h.size, h.block⟩
theorem gr_grow (w : World) (n : Nat) (os : Array Obj) : Gr w (grow (w.drewN n) os) := ⟨n, os, rfl⟩
theorem Keep.after {S : Nat → Prop} {w w1 w2 : World} (hb : Below w.heap.size w w1) (h : Keep S w1 w2) : Keep S w w2 := (Keep.of_below hb S).trans (h.mono (fun _ _ hs => .inl hs))

set_option maxHeartbeats 800000 in
theorem up_any (w : World) (ok : Nat → Prop) (tb : Nat) (v : Value) (mb : Nat) (l : List It) (ps : List (Int × Int)) (k : Nat) (x : It) (h : TmV w ok tb v mb l ps) (hx : l[k]? = some x) (hP : Pos l ps) (hH : Hole l k) (hwf : ∀ p ∈ l, (Lit.int .i64 p.1).wf = true) (hps : ps.length < maxLen) :
    Calls Tryz.prog 201 #[.pointer (some ⟨tb, 0, none⟩), .int .i64 (k : Int)] w fun e w' => e = .returned (.tuple #[]) ∧ UpPost ok tb v mb l ps x w w' := by
  have hk := (List.getElem?_eq_some_iff.1 hx).1
  obtain ⟨g, cap, rfl, hgl, htl, t0, e0, e1, hlc, hlm⟩ := h.cells hx
  have i0 : (0 : Int) ≤ (k : Int) := by omega
  have i1 : (k : Int) < (l.length : Int) := by omega
  have hwx := hwf x (List.mem_of_getElem? hx)
  have HX := Lib.hid hx
  have H := Lib.hid h
  have HP := Lib.hid hP
  have HH := Lib.hid hH
  have HW := Lib.hid hwf
  clear h hx hP hH hwf
  go_enter Tryz.func201, Tryz.ntmps201
  go_wp2_with fail
  obtain ⟨W0, hW0⟩ : ∃ W0, W0 = w.alloc (.cells #[.int .i64 x.1, .int .i64 x.2] 245) := ⟨_, rfl⟩
  rw [← hW0]
  have hB0 : Below w.heap.size w W0 := by rw [hW0]; exact below_alloc (Below.refl _ _) _
  have hbx : W0.heap[w.heap.size]? = some (.cells #[.int .i64 x.1, .int .i64 x.2] 245 (0, 0)) := by rw [hW0]; exact heap_alloc_new _ _
  have hT0 : TmV W0 ok tb (.slice (some ⟨g, 0, none⟩) l.length cap) mb l ps := H.out.move (fun k _ hk => hB0.block k hk)
  obtain ⟨xb, hxb⟩ : ∃ xb, xb = w.heap.size := ⟨_, rfl⟩
  rw [← hxb] at hbx ⊢
  have hnx : ¬ TmS (.slice (some ⟨g, 0, none⟩) l.length cap) mb xb := by
    rintro (e | e)
    · have := H.out.map.lt
      omega
    · have : g = xb := Option.some.inj e
      omega
  have hrel0 : UpRel ok tb (.slice (some ⟨g, 0, none⟩) l.length cap) mb l ps x xb w k W0 l ps := by
    refine ⟨hk, rfl, HH.out, HP.out.out HX.out, ?_, rfl, hT0, Keep.of_below hB0 _, hbx⟩
    have e : l.set k x = l := List.ext_getElem? (fun i => by
      by_cases hi : i = k
      · subst hi; rw [set_at hk, HX.out]
      · rw [set_off hi])
    rw [e]
  have HR0 := Lib.hid hrel0
  have HNX := Lib.hid hnx
  have HB0 := Lib.hid hB0
  have HXB := Lib.hid hxb
  clear hrel0 hT0 hbx hB0 hnx hW0 t0 e0 e1 i0 i1 hxb hgl htl
  go_loopw [1] (fun i wr => ∃ (kc : Nat) (lc : List It) (pc : List (Int × Int)), i = .int .i64 kc ∧ UpRel ok tb (.slice (some ⟨g, 0, none⟩) l.length cap) mb l ps x xb w kc wr lc pc) (fun i _ => (intOf i).toNat)
  case atStart => exact ⟨k, l, ps, rfl, HR0.out⟩
  case round =>
    obtain ⟨kc, lc, pc, rfl, hR⟩ := hrel
    have hkc := hR.lt
    have hll := hR.len
    have hwb0 := blk_cell hR.box 0
    have hwb1 := blk_cell hR.box 1
    have hwbl := blk_lt hR.box
    simp only [List.getElem?_toArray, List.getElem?_cons_succ, List.getElem?_cons_zero] at hwb0 hwb1
    have HR := Lib.hid hR
    have HLL := Lib.hid hll
    clear hR
    by_cases h0 : kc = 0
    · subst h0
      rw [show ((0 : Nat) : Int) = 0 from rfl]
      go_wp2_with fail
      go_quiet (fail)
      go_wp2_with fail
      have hp := put_any (wr.drewN nq) ok tb _ mb lc pc 0 x (HR.out.tm.move (fun _ _ _ => rfl)) hkc hwx (by rw [HR.out.plen]; exact hps)
      rw [show ((0 : Nat) : Int) = 0 from rfl] at hp
      refine Calls.mono hp ?_
      clear hp
      rintro e w2 ⟨rfl, hT2, hK2⟩
      go_wp2_with fail
      go_end0
      refine ⟨rfl, ?_⟩
      obtain ⟨l', ps', k', h1, h2, h3, h4, h5, h6, h7, h8⟩ := HR.out.fill (fun h => absurd h (Nat.lt_irrefl 0)) hT2 hK2.undrewN
      exact ⟨l', ps', k', h1, h2, h3, h4, h5, h6, h7, h8⟩
    · obtain ⟨kk, rfl⟩ : ∃ kk, kc = kk + 1 := ⟨kc - 1, by omega⟩
      have hpl : kk / 2 < lc.length := by omega
      obtain ⟨y, hy⟩ : ∃ y, lc[kk / 2]? = some y := ⟨lc[kk / 2], by simp [hpl]⟩
      obtain ⟨g', cap', hv, hgl', htl', t0, e0, e1, hlc', hlm'⟩ := HR.out.tm.cells hy
      injection hv with hv1 hv2 hv3
      injection hv1 with hv1
      injection hv1 with hv1
      subst hv1 hv3
      rw [hll] at t0
      have i0 : (0 : Int) ≤ (kk : Int) / 2 := by omega
      have i1 : (kk : Int) / 2 < (l.length : Int) := by omega
      have hg0 : (0 : Int) < (kk : Int) + 1 := by omega
      have HY := Lib.hid hy
      have q0 := fun n os => cell_grown hwbl hwb0 n os
      have q1 := fun n os => cell_grown hwbl hwb1 n os
      have q2 := fun n os => cell_grown (a := ⟨tb, 0, none⟩) htl' t0 n os
      have q3 := fun n os => cell_grown (a := ⟨g, kk / 2 * 2, none⟩) hgl' e0 n os
      have q4 := fun n os => cell_grown (a := ⟨g, kk / 2 * 2 + 1, none⟩) hgl' e1 n os
      clear hy hll hv2
      have mixed : Tryz.prog.follows .mixedOrders = true := by kernel_rfl
      by_cases hlt : tLt x y
      · have ho : ordI x y < 0 := (ordI_lt x y).2 hlt
        go_wp2_with fail
        refine wp_region_quiet_grown mixed (by kernel_rfl) ?_
        repeat (go_big_quiet_step ((go_at_call 224; refine Calls.grown_of (order_any _ _ _))))
        refine wpQuiet_nil ?_
        intro _ hw'
        obtain ⟨⟨nq, osq⟩, hw''⟩ := hw'
        subst hw''
        have hGr := gr_grow wr nq osq
        replace q2 := q2 nq osq
        replace q3 := q3 nq osq
        replace q4 := q4 nq osq
        clear q0 q1 hwb0 hwb1 t0 e0 e1 hwbl
        generalize grow (wr.drewN nq) osq = wg at *
        have hT := HR.out.tm.move (w' := wg) (fun k _ hk => hGr.below.block k hk)
        have hwy := HW.out y (HR.out.mem_of HY.out (by omega))
        have hp := put_any wg ok tb _ mb lc pc (kk + 1) y hT hkc hwy (by rw [HR.out.plen]; exact hps)
        rw [show ((kk + 1 : Nat) : Int) = (kk : Int) + 1 from rfl] at hp
        have HP2 := Lib.hid hp
        clear hp hT
        go_wp2_with fail
        refine Calls.mono HP2.out ?_
        rintro e w2 ⟨rfl, hT2, hK2⟩
        have hr2 := HR.out.up (by omega) HY.out hT2 (Keep.after hGr.below hK2) HNX.out
        have HR2 := Lib.hid hr2
        clear hr2 hT2 hK2
        go_wp2_with fail
        refine ⟨⟨kk / 2, _, _, by simp, HR2.out⟩, ?_⟩
        simp [intOf]
        omega
      · have ho : ¬ ordI x y < 0 := fun h => hlt ((ordI_lt x y).1 h)
        go_wp2_with fail
        refine wp_region_quiet_grown mixed (by kernel_rfl) ?_
        repeat (go_big_quiet_step ((go_at_call 224; refine Calls.grown_of (order_any _ _ _))))
        refine wpQuiet_nil ?_
        intro _ hw'
        obtain ⟨⟨nq, osq⟩, hw''⟩ := hw'
        subst hw''
        have hGr := gr_grow wr nq osq
        replace q0 := q0 nq osq
        replace q1 := q1 nq osq
        clear q2 q3 q4 hwb0 hwb1 t0 e0 e1 hwbl
        generalize grow (wr.drewN nq) osq = wg at *
        have hT := HR.out.tm.move (w' := wg) (fun k _ hk => hGr.below.block k hk)
        have hp := put_any wg ok tb _ mb lc pc (kk + 1) x hT hkc hwx (by rw [HR.out.plen]; exact hps)
        rw [show ((kk + 1 : Nat) : Int) = (kk : Int) + 1 from rfl] at hp
        have HP2 := Lib.hid hp
        clear hp hT
        go_wp2_with fail
        refine Calls.mono HP2.out ?_
        rintro e w2 ⟨rfl, hT2, hK2⟩
        go_wp2_with fail
        go_end0
        refine ⟨rfl, ?_⟩
        obtain ⟨l', ps', k', h1, h2, h3, h4, h5, h6, h7, h8⟩ := HR.out.fill (fun _ z hz => by
          have hz : lc[kk / 2]? = some z := hz
          rw [HY.out] at hz
          rw [← Option.some.inj hz]
          exact hlt) hT2 (Keep.after hGr.below hK2)
        exact ⟨l', ps', k', h1, h2, h3, h4, h5, h6, h7, h8⟩
end Go.Proofs.YtipdleiginnjmaaGreatDoor
namespace Go.Proofs.YtipdleiginnjmaaGreatDoor
open Go.RowKit Go.Sort Go.BigFrame Go.Proofs.YtipdleiginnjmaaGreatDoorW.PrintWords

def DownPost (ok : Nat → Prop) (tb : Nat) (v : Value) (mb : Nat) (l : List It) (ps : List (Int × Int)) (w w' : World) : Prop :=
  ∃ (l' : List It) (ps' : List (Int × Int)), l'.Perm l ∧ Heap2 l' ∧ Pos l' ps' ∧ ps'.length = ps.length ∧ TmV w' ok tb v mb l' ps' ∧ Keep (TmS v mb) w w'
def UpOk (lc : List It) (k : Nat) (x : It) : Prop := 0 < k → ∀ b, lc[(k - 1) / 2]? = some b → ¬ tLt x b
/-- The lesser child of place k: at c, it is y. -/
structure Cd (lc : List It) (k c : Nat) (y : It) : Prop where
  pos : 0 < c
  par : (c - 1) / 2 = k
  at_ : lc[c]? = some y
  min : ∀ d z, 0 < d → (d - 1) / 2 = k → lc[d]? = some z → ¬ tLt z y
theorem Cd.left {lc : List It} {k : Nat} {y : It} (hy : lc[2 * k + 1]? = some y) (h : ∀ z, lc[2 * k + 2]? = some z → ¬ tLt z y) : Cd lc k (2 * k + 1) y := by
  refine ⟨by omega, by omega, hy, fun d z h0 hd hz => ?_⟩
  have : d = 2 * k + 1 ∨ d = 2 * k + 2 := by omega
  rcases this with rfl | rfl
  · rw [hy] at hz
    rw [← Option.some.inj hz]
    exact tLt_irrefl _
  · exact h z hz
theorem Cd.right {lc : List It} {k : Nat} {y z : It} (hy : lc[2 * k + 1]? = some y) (hz : lc[2 * k + 2]? = some z) (h : tLt z y) : Cd lc k (2 * k + 1 + 1) z := by
  refine ⟨by omega, by omega, hz, fun d u h0 hd hu => ?_⟩
  have : d = 2 * k + 1 ∨ d = 2 * k + 2 := by omega
  rcases this with rfl | rfl
  · rw [hy] at hu
    rw [← Option.some.inj hu]
    exact tLe_of_lt h
  · rw [hz] at hu
    rw [← Option.some.inj hu]
    exact tLt_irrefl _
theorem UpRel.down {ok : Nat → Prop} {tb : Nat} {v : Value} {mb : Nat} {l : List It} {ps : List (Int × Int)} {x : It} {xb : Nat} {w : World} {k : Nat} {wr w2 : World} {lc : List It} {pc : List (Int × Int)} (h : UpRel ok tb v mb l ps x xb w k wr lc pc)
    {c : Nat} {y : It} (hc : Cd lc k c y) (hxy : tLt y x) (h2 : TmV w2 ok tb v mb (lc.set k y) (mput pc y.1 k)) (hK : Keep (TmS v mb) wr w2) (hx : ¬ TmS v mb xb) : UpRel ok tb v mb l ps x xb w c w2 (lc.set k y) (mput pc y.1 k) ∧ UpOk (lc.set k y) c x := by
  have hcp := hc.par
  have hc0 := hc.pos
  have hp : c ≠ k := by omega
  have hlt := h.lt
  have hcl := (List.getElem?_eq_some_iff.1 hc.at_).1
  refine ⟨⟨by rw [List.length_set]; omega, by rw [List.length_set]; exact h.len, h.hole.down hlt hc.pos hc.par hc.at_ hc.min, h.pos.move hc.at_ hp hlt, (perm_swap hlt hc.at_ hp).trans h.perm, (mput_plen h.tm.map.nodup (h.pos.has_at hc.at_ hp)).trans h.plen, h2, h.keep.trans (hK.mono (fun _ _ hs => .inl hs)), (hK.block xb (blk_lt h.box) hx).trans h.box⟩, fun _ b hb => ?_⟩
  rw [hc.par, set_at hlt] at hb
  rw [← Option.some.inj hb]
  exact tLe_of_lt hxy
theorem UpRel.done {ok : Nat → Prop} {tb : Nat} {v : Value} {mb : Nat} {l : List It} {ps : List (Int × Int)} {x : It} {xb : Nat} {w : World} {k : Nat} {wr w2 : World} {lc : List It} {pc : List (Int × Int)} (h : UpRel ok tb v mb l ps x xb w k wr lc pc)
    (hu : UpOk lc k x) (hd : ∀ c a, 0 < c → (c - 1) / 2 = k → lc[c]? = some a → ¬ tLt a x) (h2 : TmV w2 ok tb v mb (lc.set k x) (mput pc x.1 k)) (hK : Keep (TmS v mb) wr w2) : DownPost ok tb v mb l ps w w2 := by
  refine ⟨_, _, h.perm, (h.hole.set x).fill (set_at h.lt) (fun hk b hb => ?_) (fun c a h0 hc ha => ?_), h.pos.fill h.lt, (mput_plen h.tm.map.nodup h.pos.has).trans h.plen, h2, h.keep.trans (hK.mono (fun _ _ hs => .inl hs))⟩
  · rw [set_off (by omega)] at hb
    exact hu hk b hb
  · rw [set_off (by omega)] at ha
    exact hd c a h0 hc ha

set_option maxHeartbeats 1600000 in
theorem down_any (w : World) (ok : Nat → Prop) (tb : Nat) (v : Value) (mb : Nat) (l : List It) (ps : List (Int × Int)) (k : Nat) (x : It) (h : TmV w ok tb v mb l ps) (hx : l[k]? = some x) (hP : Pos l ps) (hH : Hole l k) (hU : UpOk l k x) (hwf : ∀ p ∈ l, (Lit.int .i64 p.1).wf = true) (hps : ps.length < maxLen) (hl : l.length ≤ 1000000) :
    Calls Tryz.prog 202 #[.pointer (some ⟨tb, 0, none⟩), .int .i64 (k : Int)] w fun e w' => e = .returned (.tuple #[]) ∧ DownPost ok tb v mb l ps w w' := by
  have hk := (List.getElem?_eq_some_iff.1 hx).1
  obtain ⟨g, cap, rfl, hgl, htl, t0, e0, e1, hlc, hlm⟩ := h.cells hx
  have i0 : (0 : Int) ≤ (k : Int) := by omega
  have i1 : (k : Int) < (l.length : Int) := by omega
  have hwx := hwf x (List.mem_of_getElem? hx)
  have HX := Lib.hid hx
  have H := Lib.hid h
  have HP := Lib.hid hP
  have HH := Lib.hid hH
  have HU := Lib.hid hU
  have HW := Lib.hid hwf
  clear h hx hP hH hwf hU
  go_enter Tryz.func202, Tryz.ntmps202
  go_wp2_with fail
  obtain ⟨W0, hW0⟩ : ∃ W0, W0 = w.alloc (.cells #[.int .i64 x.1, .int .i64 x.2] 245) := ⟨_, rfl⟩
  rw [← hW0]
  have hB0 : Below w.heap.size w W0 := by rw [hW0]; exact below_alloc (Below.refl _ _) _
  have hbx : W0.heap[w.heap.size]? = some (.cells #[.int .i64 x.1, .int .i64 x.2] 245 (0, 0)) := by rw [hW0]; exact heap_alloc_new _ _
  have hT0 : TmV W0 ok tb (.slice (some ⟨g, 0, none⟩) l.length cap) mb l ps := H.out.move (fun k _ hk => hB0.block k hk)
  obtain ⟨xb, hxb⟩ : ∃ xb, xb = w.heap.size := ⟨_, rfl⟩
  rw [← hxb] at hbx ⊢
  have hnx : ¬ TmS (.slice (some ⟨g, 0, none⟩) l.length cap) mb xb := by
    rintro (e | e)
    · have := H.out.map.lt
      omega
    · have : g = xb := Option.some.inj e
      omega
  have hrel0 : UpRel ok tb (.slice (some ⟨g, 0, none⟩) l.length cap) mb l ps x xb w k W0 l ps := by
    refine ⟨hk, rfl, HH.out, HP.out.out HX.out, ?_, rfl, hT0, Keep.of_below hB0 _, hbx⟩
    have e : l.set k x = l := List.ext_getElem? (fun i => by
      by_cases hi : i = k
      · subst hi; rw [set_at hk, HX.out]
      · rw [set_off hi])
    rw [e]
  have HR0 := Lib.hid hrel0
  have HNX := Lib.hid hnx
  have HB0 := Lib.hid hB0
  have mixed : Tryz.prog.follows .mixedOrders = true := by kernel_rfl
  have HXB := Lib.hid hxb
  clear hrel0 hT0 hbx hB0 hnx hW0 t0 e0 e1 i0 i1 hxb hgl htl
  go_loopw [1, 5] (fun i _ wr => ∃ (kc : Nat) (lc : List It) (pc : List (Int × Int)), i = .int .i64 kc ∧ UpRel ok tb (.slice (some ⟨g, 0, none⟩) l.length cap) mb l ps x xb w kc wr lc pc ∧ UpOk lc kc x) (fun i _ _ => l.length - (intOf i).toNat)
  case atStart => exact ⟨k, l, ps, rfl, HR0.out, HU.out⟩
  case round =>
    obtain ⟨kc, lc, pc, rfl, hR, hu⟩ := hrel
    have hkc := hR.lt
    have hll := hR.len
    have hwb0 := blk_cell hR.box 0
    have hwb1 := blk_cell hR.box 1
    have hwbl := blk_lt hR.box
    simp only [List.getElem?_toArray, List.getElem?_cons_succ, List.getElem?_cons_zero] at hwb0 hwb1
    have HR := Lib.hid hR
    have HLL := Lib.hid hll
    have HUo := Lib.hid hu
    have t0 := blk_cell hR.tm.hd 0
    simp only [List.getElem?_toArray, List.getElem?_cons_zero] at t0
    have hkn : kc < l.length := by omega
    clear hR hu
    by_cases h0 : 2 * kc + 1 < l.length
    · have h0i : 2 * (kc : Int) + 1 < (l.length : Int) := by omega
      go_wp2_with fail
      obtain ⟨c1, hc1⟩ : ∃ c1, c1 = 2 * kc + 1 := ⟨_, rfl⟩
      rw [show (2 * (kc : Int) + 1) = (c1 : Int) from by omega]
      have hc1l : c1 < lc.length := by omega
      have hc1L : c1 < l.length := by omega
      obtain ⟨y1, hy1⟩ : ∃ y1, lc[c1]? = some y1 := ⟨lc[c1], by simp [hc1l]⟩
      have hwr : IntKind.i64.wrap ((c1 : Int) + 1) = (c1 : Int) + 1 := IntWalk.i64_in _ (by omega)
      obtain ⟨g', cap', hv, hgl', htl', _, e0, e1, hlc', hlm'⟩ := HR.out.tm.cells hy1
      injection hv with hv1 hv2 hv3
      injection hv1 with hv1
      injection hv1 with hv1
      subst hv1
      have HC1 := Lib.hid hc1
      have HY1 := Lib.hid hy1
      have j0 : (0 : Int) ≤ (c1 : Int) := by omega
      have j1 : (c1 : Int) < (l.length : Int) := by omega
      have hcase : (∃ y2, c1 + 1 < l.length ∧ lc[c1 + 1]? = some y2 ∧ tLt y2 y1) ∨ (∃ y2, c1 + 1 < l.length ∧ lc[c1 + 1]? = some y2 ∧ ¬ tLt y2 y1) ∨ ¬ c1 + 1 < l.length := by
        by_cases h2 : c1 + 1 < l.length
        · have h3 : c1 + 1 < lc.length := by omega
          by_cases hq : tLt lc[c1 + 1] y1
          · exact .inl ⟨_, h2, by simp [h3], hq⟩
          · exact .inr (.inl ⟨_, h2, by simp [h3], hq⟩)
        · exact .inr (.inr h2)
      have q0 := fun n os => cell_grown hwbl hwb0 n os
      have q1 := fun n os => cell_grown hwbl hwb1 n os
      have q2 := fun n os => cell_grown (a := ⟨tb, 0, none⟩) htl' t0 n os
      have q3 := fun n os => cell_grown (a := ⟨g, c1 * 2, none⟩) hgl' e0 n os
      have q4 := fun n os => cell_grown (a := ⟨g, c1 * 2 + 1, none⟩) hgl' e1 n os
      clear hc1 hy1 hv2 hv3 t0 e0 e1
      rcases hcase with ⟨y2, h2, hy2, hlt⟩ | ⟨y2, h2, hy2, hlt⟩ | h2
      case' inl =>
        have h2i : (c1 : Int) + 1 < (l.length : Int) := by omega
        have k0 : (0 : Int) ≤ (c1 : Int) + 1 := by omega
        have ho : ordI y2 y1 < 0 := (ordI_lt y2 y1).2 hlt
        obtain ⟨g', cap', hv, hgl', _, _, e0, e1, _, _⟩ := HR.out.tm.cells hy2
        injection hv with hv1 hv2 hv3
        injection hv1 with hv1
        injection hv1 with hv1
        subst hv1
        have q5 := fun n os => cell_grown (a := ⟨g, (c1 + 1) * 2, none⟩) hgl' e0 n os
        have q6 := fun n os => cell_grown (a := ⟨g, (c1 + 1) * 2 + 1, none⟩) hgl' e1 n os
        have HCd := Lib.hid (show Cd lc kc (c1 + 1) y2 by
          have e := HC1.out
          have a1 := HY1.out
          subst e
          exact Cd.right a1 hy2 hlt)
        clear hv2 hv3 e0 e1 hy2 hlt hll HLL
        refine wp_region_quiet_grown mixed (by kernel_rfl) ?_
        repeat (go_big_quiet_step ((go_at_call 224; refine Calls.grown_of (order_any _ _ _))))
        refine wpQuiet_nil ?_
        intro _ hw'
        obtain ⟨⟨nq, osq⟩, hw''⟩ := hw'
        subst hw''
        have hBg := (gr_grow wr nq osq).below
        generalize grow (wr.drewN nq) osq = wg at hBg ⊢
        clear q0 q1 q2 q3 q4 q5 q6 ho hwr j0 j1 HY1
        go_wp2_with fail
        obtain ⟨c, hc⟩ : ∃ c, c = c1 + 1 := ⟨_, rfl⟩
        rw [show ((c1 : Int) + 1) = (c : Int) from by omega]
        rw [← hc] at HCd
        have hcl : c < l.length := by omega
        obtain ⟨y, hy⟩ : ∃ y, y = y2 := ⟨_, rfl⟩
        rw [← hy] at HCd
        clear hc hy h2i k0 HC1 hc1l hc1L h2 hlc' hlm' hgl' htl'
      case' inr.inl =>
        have h2i : (c1 : Int) + 1 < (l.length : Int) := by omega
        have k0 : (0 : Int) ≤ (c1 : Int) + 1 := by omega
        have ho : ¬ ordI y2 y1 < 0 := fun h => hlt ((ordI_lt y2 y1).1 h)
        obtain ⟨g', cap', hv, hgl', _, _, e0, e1, _, _⟩ := HR.out.tm.cells hy2
        injection hv with hv1 hv2 hv3
        injection hv1 with hv1
        injection hv1 with hv1
        subst hv1
        have q5 := fun n os => cell_grown (a := ⟨g, (c1 + 1) * 2, none⟩) hgl' e0 n os
        have q6 := fun n os => cell_grown (a := ⟨g, (c1 + 1) * 2 + 1, none⟩) hgl' e1 n os
        have HCd := Lib.hid (show Cd lc kc c1 y1 by
          have e := HC1.out
          have a1 := HY1.out
          subst e
          exact Cd.left a1 (fun z hz => by rw [hy2] at hz; rw [← Option.some.inj hz]; exact hlt))
        clear hv2 hv3 e0 e1 hy2 hlt hll HLL
        refine wp_region_quiet_grown mixed (by kernel_rfl) ?_
        repeat (go_big_quiet_step ((go_at_call 224; refine Calls.grown_of (order_any _ _ _))))
        refine wpQuiet_nil ?_
        intro _ hw'
        obtain ⟨⟨nq, osq⟩, hw''⟩ := hw'
        subst hw''
        have hBg := (gr_grow wr nq osq).below
        generalize grow (wr.drewN nq) osq = wg at hBg ⊢
        clear q0 q1 q2 q3 q4 q5 q6 ho hwr j0 j1 HY1
        go_wp2_with fail
        obtain ⟨c, hc⟩ : ∃ c, c = c1 := ⟨_, rfl⟩
        rw [← hc] at HCd ⊢
        have hcl : c < l.length := by omega
        obtain ⟨y, hy⟩ : ∃ y, y = y1 := ⟨_, rfl⟩
        rw [← hy] at HCd
        clear hc hy h2i k0 HC1 hc1l hc1L h2 hlc' hlm' hgl' htl'
      case' inr.inr =>
        have h2i : ¬ (c1 : Int) + 1 < (l.length : Int) := by omega
        have HCd := Lib.hid (show Cd lc kc c1 y1 by
          have e := HC1.out
          have a1 := HY1.out
          have a2 := HLL.out
          subst e
          exact Cd.left a1 (fun z hz => by have := (List.getElem?_eq_some_iff.1 hz).1; omega))
        clear hll HLL
        refine wp_region_quiet_grown mixed (by kernel_rfl) ?_
        repeat (go_big_quiet_step ((go_at_call 224; refine Calls.grown_of (order_any _ _ _))))
        refine wpQuiet_nil ?_
        intro _ hw'
        obtain ⟨⟨nq, osq⟩, hw''⟩ := hw'
        subst hw''
        have hBg := (gr_grow wr nq osq).below
        generalize grow (wr.drewN nq) osq = wg at hBg ⊢
        clear q0 q1 q2 q3 q4 hwr j0 j1 HY1
        go_wp2_with fail
        obtain ⟨c, hc⟩ : ∃ c, c = c1 := ⟨_, rfl⟩
        rw [← hc] at HCd ⊢
        have hcl : c < l.length := by omega
        obtain ⟨y, hy⟩ : ∃ y, y = y1 := ⟨_, rfl⟩
        rw [← hy] at HCd
        clear hc hy h2i HC1 hc1l hc1L h2 hlc' hlm' hgl' htl'
      all_goals
        have hTg := HR.out.tm.move (w' := wg) (fun k _ hk => hBg.block k hk)
        have hbg := blk_below HR.out.box hBg
        have b0 := blk_cell hbg 0
        have b1 := blk_cell hbg 1
        have hbl := blk_lt hbg
        simp only [List.getElem?_toArray, List.getElem?_cons_succ, List.getElem?_cons_zero] at b0 b1
        obtain ⟨g', cap', hv, hgl', htl', t0, e0, e1, hlc', hlm'⟩ := hTg.cells HCd.out.at_
        have hlenc := HR.out.len
        rw [hlenc] at t0
        injection hv with hv1 hv2 hv3
        injection hv1 with hv1
        injection hv1 with hv1
        subst hv1 hv3
        have j0 : (0 : Int) ≤ (c : Int) := by omega
        have j1 : (c : Int) < (l.length : Int) := by omega
        have q0 := fun n os => cell_grown hbl b0 n os
        have q1 := fun n os => cell_grown hbl b1 n os
        have q2 := fun n os => cell_grown (a := ⟨tb, 0, none⟩) htl' t0 n os
        have q3 := fun n os => cell_grown (a := ⟨g, c * 2, none⟩) hgl' e0 n os
        have q4 := fun n os => cell_grown (a := ⟨g, c * 2 + 1, none⟩) hgl' e1 n os
        clear hv2 hTg hbg hlenc b0 b1 t0 e0 e1 hwb0 hwb1
        by_cases hxy : tLt y x
        · have ho : ¬ ordI x y ≤ 0 := fun h => (ordI_le x y).1 h hxy
          refine wp_region_quiet_grown mixed (by kernel_rfl) ?_
          repeat (go_big_quiet_step ((go_at_call 224; refine Calls.grown_of (order_any _ _ _))))
          refine wpQuiet_nil ?_
          intro _ hw'
          obtain ⟨⟨nq, osq⟩, hw''⟩ := hw'
          subst hw''
          have hBh := hBg.trans ((gr_grow wg nq osq).below.mono hBg.size)
          replace q2 := q2 nq osq
          replace q3 := q3 nq osq
          replace q4 := q4 nq osq
          clear q0 q1
          generalize grow (wg.drewN nq) osq = wh at hBh q2 q3 q4 ⊢
          have hT := HR.out.tm.move (w' := wh) (fun k _ hk => hBh.block k hk)
          have hwy := HW.out y (HR.out.mem_of HCd.out.at_ (by have := HCd.out.pos; have := HCd.out.par; omega))
          have HP2 := Lib.hid (put_any wh ok tb _ mb lc pc kc y hT hkc hwy (by rw [HR.out.plen]; exact hps))
          clear hT
          go_wp2_with fail
          refine Calls.mono HP2.out ?_
          rintro e w2 ⟨rfl, hT2, hK2⟩
          have hr2 := HR.out.down HCd.out hxy hT2 (Keep.after hBh hK2) HNX.out
          have HR2 := Lib.hid hr2
          have hpar := HCd.out.par
          have hpos := HCd.out.pos
          clear hr2 hT2 hK2
          go_wp2_with fail
          refine ⟨⟨c, _, _, rfl, HR2.out.1, HR2.out.2⟩, ?_⟩
          simp [intOf]
          omega
        · have ho : ordI x y ≤ 0 := (ordI_le x y).2 hxy
          refine wp_region_quiet_grown mixed (by kernel_rfl) ?_
          repeat (go_big_quiet_step ((go_at_call 224; refine Calls.grown_of (order_any _ _ _))))
          refine wpQuiet_nil ?_
          intro _ hw'
          obtain ⟨⟨nq, osq⟩, hw''⟩ := hw'
          subst hw''
          have hBh := hBg.trans ((gr_grow wg nq osq).below.mono hBg.size)
          replace q0 := q0 nq osq
          replace q1 := q1 nq osq
          clear q2 q3 q4
          generalize grow (wg.drewN nq) osq = wh at hBh q0 q1 ⊢
          have hT := HR.out.tm.move (w' := wh) (fun k _ hk => hBh.block k hk)
          have HP2 := Lib.hid (put_any wh ok tb _ mb lc pc kc x hT hkc hwx (by rw [HR.out.plen]; exact hps))
          clear hT
          go_wp2_with fail
          refine Calls.mono HP2.out ?_
          rintro e w2 ⟨rfl, hT2, hK2⟩
          go_wp2_with fail
          go_end0
          exact ⟨rfl, HR.out.done HUo.out (fun d a h0 hd ha => tLe_trans hxy (HCd.out.min d a h0 hd ha)) hT2 (Keep.after hBh hK2)⟩
    · have h0i : ¬ 2 * (kc : Int) + 1 < (l.length : Int) := by omega
      clear hll
      go_wp2_with fail
      refine Calls.mono (put_any wr ok tb _ mb lc pc kc x HR.out.tm hkc hwx (by rw [HR.out.plen]; exact hps)) ?_
      rintro e w2 ⟨rfl, hT2, hK2⟩
      go_wp2_with fail
      go_end0
      refine ⟨rfl, HR.out.done HUo.out (fun c a hc0 hc ha => ?_) hT2 hK2⟩
      have := (List.getElem?_eq_some_iff.1 ha).1
      rw [HLL.out] at this
      omega
end Go.Proofs.YtipdleiginnjmaaGreatDoor
namespace Go.Proofs.YtipdleiginnjmaaGreatDoor
open Go.RowKit Go.Maps Go.Proofs.YtipdleiginnjmaaGreatDoorW.PrintWords

structure TmOk (l : List It) (ps : List (Int × Int)) (s : List It) : Prop where
  pos : Pos l ps
  heap : Heap2 l
  perm : l.Perm s
  row : s.Pairwise tLt
  wf : ∀ p ∈ s, (Lit.int .i64 p.1).wf = true
/-- A timer (its block tb) that holds s. -/
def TmAt (w : World) (ok : Nat → Prop) (tb : Nat) (s : List It) : Prop := ∃ v mb l ps, TmV w ok tb v mb l ps ∧ TmOk l ps s
theorem TmOk.nodup {l : List It} {ps : List (Int × Int)} {s : List It} (h : TmOk l ps s) : (s.map (·.1)).Nodup := (h.perm.map _).nodup_iff.1 h.pos.nodup
theorem TmAt.trow {w : World} {ok : Nat → Prop} {tb : Nat} {s : List It} (h : TmAt w ok tb s) : tRow s := by
  obtain ⟨_, _, _, _, _, h⟩ := h
  exact ⟨h.row, h.nodup⟩
theorem TmAt.wf {w : World} {ok : Nat → Prop} {tb : Nat} {s : List It} (h : TmAt w ok tb s) : ∀ p ∈ s, (Lit.int .i64 p.1).wf = true := by
  obtain ⟨_, _, _, _, _, h⟩ := h
  exact h.wf
theorem TmV.bound {w : World} {ok : Nat → Prop} {tb : Nat} {v : Value} {mb : Nat} {l : List It} {ps : List (Int × Int)} (h : TmV w ok tb v mb l ps) {ok' : Nat → Prop} (hm : ∀ k, ok k → k < w.heap.size → ok' k) : TmV w ok' tb v mb l ps :=
  ⟨h.hd, Kd.R_mono (Kd.R_bound h.row) (fun k hk => ⟨hm k hk.1.1 hk.2.2.1, hk.1.2⟩), h.map, hm tb h.oktb (blk_lt h.hd), hm mb h.okmb h.map.lt⟩
theorem TmAt.mono {w : World} {ok : Nat → Prop} {tb : Nat} {s : List It} (h : TmAt w ok tb s) {ok' : Nat → Prop} (hm : ∀ k, ok k → k < w.heap.size → ok' k) : TmAt w ok' tb s := by
  obtain ⟨v, mb, l, ps, h1, h2⟩ := h
  exact ⟨v, mb, l, ps, h1.bound hm, h2⟩
theorem TmAt.move {w w' : World} {ok : Nat → Prop} {tb : Nat} {s : List It} (h : TmAt w ok tb s) (hm : ∀ k, ok k → k < w.heap.size → w'.heap[k]? = w.heap[k]?) : TmAt w' ok tb s := by
  obtain ⟨v, mb, l, ps, h1, h2⟩ := h
  exact ⟨v, mb, l, ps, h1.move hm, h2⟩
theorem TmAt.below {w w' : World} {ok : Nat → Prop} {tb : Nat} {s : List It} (h : TmAt w ok tb s) (hb : Below w.heap.size w w') : TmAt w' ok tb s := h.move (fun k _ hk => hb.block k hk)
theorem TmAt.kept {w w' : World} {ok S : Nat → Prop} {tb : Nat} {s : List It} (h : TmAt w ok tb s) (hk : Keep S w w') (hd : ∀ k, ok k → k < w.heap.size → ¬ S k) : TmAt w' ok tb s := h.move (fun k ho hl => hk.block k hl (hd k ho hl))
theorem TmAt.lt {w : World} {ok : Nat → Prop} {tb : Nat} {s : List It} (h : TmAt w ok tb s) : tb < w.heap.size := by
  obtain ⟨v, mb, l, ps, h1, h2⟩ := h
  exact blk_lt h1.hd
theorem TmAt.okt {w : World} {ok : Nat → Prop} {tb : Nat} {s : List It} (h : TmAt w ok tb s) : ok tb := by
  obtain ⟨v, mb, l, ps, h1, h2⟩ := h
  exact h1.oktb
theorem TmV.row_ok {w : World} {ok : Nat → Prop} {tb : Nat} {v : Value} {mb : Nat} {l : List It} {ps : List (Int × Int)} (h : TmV w ok tb v mb l ps) : ∀ k, TmS v mb k → ok k := by
  rintro k (rfl | hk)
  · exact h.okmb
  · exact (h.row.1 k hk).1

set_option maxHeartbeats 400000 in
theorem timerNew_any (w : World) : Calls Tryz.prog 151 #[] w fun e w' => e = .returned (.pointer (some ⟨w.heap.size + 1, 0, none⟩)) ∧ TmAt w' (fun k => w.heap.size ≤ k) (w.heap.size + 1) [] ∧ Below w.heap.size w w' := by
  have hmm := @run_makeMap Tryz.prog
  go_enter Tryz.func151, Tryz.ntmps151
  go_wp2
  go_ret
  have hB : Below w.heap.size w ((w.alloc (.map #[] 0)).alloc (.cells #[.slice none 0 0, .map (some w.heap.size)] 243)) := below_alloc (below_alloc (Below.refl _ _) _) _
  refine ⟨rfl, ⟨.slice none 0 0, w.heap.size, [], [], ⟨?_, Kd.R_nil _ _ _ _ _, ?_, by omega, Nat.le_refl _⟩, ⟨?_, ?_, List.Perm.refl _, List.Pairwise.nil, by simp⟩⟩, hB⟩
  · exact heap_new_at _ _ _ (by simp)
  · exact (MapAt.made KTI (.int .i64) w).below (below_alloc (Below.refl _ _) _)
  · intro id j
    constructor
    · intro h; cases h
    · rintro ⟨m, _, h⟩; simp at h
  · intro i a b _ h
    simp at h

/-- The first of a row, and whether there is one. -/
def itFirst (s : List It) : It × Bool := match s with | [] => ((0, 0), false) | x :: _ => (x, true)
set_option maxHeartbeats 400000 in
theorem timerNext_any (w : World) (ok : Nat → Prop) (tb : Nat) (s : List It) (h : TmAt w ok tb s) : Calls Tryz.prog 215 #[.pointer (some ⟨tb, 0, none⟩)] w fun e w' => e = .returned (.tuple #[.agg #[.int .i64 (itFirst s).1.1, .int .i64 (itFirst s).1.2], .bool (itFirst s).2]) ∧ Below w.heap.size w w' := by
  obtain ⟨v, mb, l, ps, hT, hO⟩ := h
  have hm := head_min hO.heap hO.perm hO.row
  cases s with
  | nil =>
    have hl0 : l = [] := List.perm_nil.1 hO.perm
    subst hl0
    obtain ⟨A, c, rfl, hl, hC⟩ := Kd.R_reads hT.row
    have t0 := blk_cell hT.hd 0
    simp only [List.getElem?_toArray, List.getElem?_cons_zero] at t0
    have htl := blk_lt hT.hd
    clear hT hO hm
    go_enter Tryz.func215, Tryz.ntmps215
    go_wp2
    exact bodyPost_ret (v := .tuple #[.agg #[.int .i64 0, .int .i64 0], .bool false]) (by simp [results, Tryz.results215, go_sem]) rfl ⟨rfl, (Below.refl _ _).alloc (Nat.le_refl _) _⟩
  | cons x s =>
    have hx : l[0]? = some x := hm
    have hne : ¬ (l.length : Int) = 0 := by
      have := (List.getElem?_eq_some_iff.1 hx).1
      omega
    have hneb : ((l.length : Int) == 0) = false := by simpa using hne
    have hpos : (0 : Int) < (l.length : Int) := by omega
    obtain ⟨g, cap, rfl, hgl, htl, t0, e0, e1, hlc, hlm⟩ := hT.cells hx
    simp only [Nat.zero_mul, Nat.zero_add] at e0 e1
    clear hT hO hm hx
    go_enter Tryz.func215, Tryz.ntmps215
    go_wp2
    exact bodyPost_ret (v := .tuple #[.agg #[.int .i64 x.1, .int .i64 x.2], .bool true]) (by simp [results, Tryz.results215, go_sem]) rfl ⟨rfl, (Below.refl _ _).alloc (Nat.le_refl _) _⟩

/-- A thing's time, and whether it is there. -/
def itAt (s : List It) (id : Int) : Int × Bool := match s.find? (fun p => decide (p.1 = id)) with | some p => (p.2, true) | none => (0, false)
theorem itAt_some {s : List It} (hn : (s.map (·.1)).Nodup) {id t : Int} (h : (id, t) ∈ s) : itAt s id = (t, true) := by
  have := mget_mem hn h
  unfold mget at this
  unfold itAt
  obtain ⟨p, hp, e⟩ := Option.map_eq_some_iff.1 this
  rw [hp]
  simp only at e ⊢
  rw [e]
theorem itAt_none {s : List It} {id : Int} (h : ∀ p ∈ s, p.1 ≠ id) : itAt s id = (0, false) := by
  unfold itAt
  rw [List.find?_eq_none.2 (fun p hp => by simpa using h p hp)]
theorem TmV.look {w : World} {ok : Nat → Prop} {tb : Nat} {v : Value} {mb : Nat} {l : List It} {ps : List (Int × Int)} (h : TmV w ok tb v mb l ps) {id : Int} (hw : (Lit.int .i64 id).wf = true) :
    (Instr.lookup 241 (.map (some mb)) (.int .i64 id) true).run Tryz.prog w = .ok (.tuple #[((mget ps id).map (Value.int .i64)).getD (.int .i64 0), .bool (mget ps id).isSome]) w := h.map.look under_map (zero_int w) (a := id) hw
theorem TmV.look1 {w : World} {ok : Nat → Prop} {tb : Nat} {v : Value} {mb : Nat} {l : List It} {ps : List (Int × Int)} (h : TmV w ok tb v mb l ps) {id : Int} (hw : (Lit.int .i64 id).wf = true) :
    (Instr.lookup 241 (.map (some mb)) (.int .i64 id) false).run Tryz.prog w = .ok (((mget ps id).map (Value.int .i64)).getD (.int .i64 0)) w := h.map.look1 under_map (zero_int w) (a := id) hw
theorem TmV.tcells {w : World} {ok : Nat → Prop} {tb : Nat} {v : Value} {mb : Nat} {l : List It} {ps : List (Int × Int)} (h : TmV w ok tb v mb l ps) : w.cell? ⟨tb, 0, none⟩ = some v ∧ w.cell? ⟨tb, 1, none⟩ = some (.map (some mb)) ∧ tb < w.heap.size := by
  have t0 := blk_cell h.hd 0
  have t1 := blk_cell h.hd 1
  exact ⟨t0, t1, blk_lt h.hd⟩
theorem TmOk.there {l : List It} {ps : List (Int × Int)} {s : List It} (h : TmOk l ps s) {id j : Int} (hj : mget ps id = some j) : ∃ (m : Nat) (t : Int), j = m ∧ l[m]? = some (id, t) ∧ m < l.length ∧ (id, t) ∈ s := by
  obtain ⟨m, t, h1, h2, h3⟩ := h.pos.at hj
  exact ⟨m, t, h1, h2, h3, h.perm.mem_iff.1 (List.mem_of_getElem? h2)⟩
theorem TmOk.not {l : List It} {ps : List (Int × Int)} {s : List It} (h : TmOk l ps s) {id : Int} (hj : mget ps id = none) : ∀ p ∈ s, p.1 ≠ id := by
  intro p hp
  obtain ⟨m, hm⟩ := List.getElem?_of_mem (h.perm.mem_iff.2 hp)
  exact h.pos.none hj hm
set_option maxHeartbeats 400000 in
theorem timerAt_any (w : World) (ok : Nat → Prop) (tb : Nat) (s : List It) (id : Int) (h : TmAt w ok tb s) (hw : (Lit.int .i64 id).wf = true) : Calls Tryz.prog 83 #[.pointer (some ⟨tb, 0, none⟩), .int .i64 id] w fun e w' => e = .returned (.tuple #[.int .i64 (itAt s id).1, .bool (itAt s id).2]) ∧ w = w' := by
  obtain ⟨v, mb, l, ps, hT, hO⟩ := h
  have hlk := hT.look hw
  cases hj : mget ps id with
  | none =>
    rw [hj] at hlk
    have hlk : (Instr.lookup 241 (.map (some mb)) (.int .i64 id) true).run Tryz.prog w = .ok (.tuple #[.int .i64 0, .bool false]) w := hlk
    rw [itAt_none (hO.not hj)]
    obtain ⟨t0, t1, htl⟩ := hT.tcells
    clear hT hO hj
    go_enter Tryz.func83, Tryz.ntmps83
    go_wp2
    go_ret2
    exact ⟨rfl, rfl⟩
  | some j =>
    obtain ⟨m, t, rfl, hm, hml, hs⟩ := hO.there hj
    rw [hj] at hlk
    have hlk : (Instr.lookup 241 (.map (some mb)) (.int .i64 id) true).run Tryz.prog w = .ok (.tuple #[.int .i64 (m : Int), .bool true]) w := hlk
    rw [itAt_some hO.nodup hs]
    obtain ⟨_, t1, _⟩ := hT.tcells
    obtain ⟨g, cap, rfl, hgl, htl, t0, e0, e1, hlc, hlm⟩ := hT.cells hm
    have i0 : (0 : Int) ≤ (m : Int) := by omega
    have i1 : (m : Int) < (l.length : Int) := by omega
    clear hT hO hj hm hs
    go_enter Tryz.func83, Tryz.ntmps83
    go_wp2
    go_ret2
    exact ⟨rfl, rfl⟩
end Go.Proofs.YtipdleiginnjmaaGreatDoor
namespace Go.Proofs.YtipdleiginnjmaaGreatDoor
open Go.RowKit Go.Maps Go.Proofs.YtipdleiginnjmaaGreatDoorW.PrintWords

theorem TmOk.of_new {l l3 : List It} {ps3 : List (Int × Int)} {s : List It} {id t : Int} (hw : (Lit.int .i64 id).wf = true) (hr : tRow s) (hwf : ∀ p ∈ s, (Lit.int .i64 p.1).wf = true) (hl : l.Perm ((id, t) :: tDrop s id)) (h1 : l3.Perm l) (h2 : Pos l3 ps3) (h3 : Heap2 l3) : TmOk l3 ps3 (tSet s id t) := by
  have hd : ∀ p ∈ tSet s id t, p = (id, t) ∨ p ∈ s := fun p hp => by
    rcases List.mem_cons.1 ((tIns_perm _ _).mem_iff.1 hp) with h | h
    · exact .inl h
    · exact .inr (List.mem_filter.1 h).1
  refine ⟨h2, h3, h1.trans (hl.trans (tIns_perm _ _).symm), (tSet_row hr id t).1, fun p hp => ?_⟩
  rcases hd p hp with rfl | h
  · exact hw
  · exact hwf p h
/-- The end of Set, and of Drop: what 'up' and 'down' leave of a row with one thing out of place. -/
theorem TmV.toKeep {w w' : World} {ok : Nat → Prop} {tb : Nat} {v : Value} {mb : Nat} {l : List It} {ps : List (Int × Int)} (h : TmV w ok tb v mb l ps) (hk : Keep (TmS v mb) w w') : Keep ok w w' := hk.mono (fun k _ hs => h.row_ok k hs)

set_option maxHeartbeats 800000 in
theorem timerSet_old (w : World) (ok : Nat → Prop) (tb : Nat) (v : Value) (mb : Nat) (l : List It) (ps : List (Int × Int)) (s : List It) (id t : Int) (hT : TmV w ok tb v mb l ps) (hO : TmOk l ps s) (hw : (Lit.int .i64 id).wf = true) (hs : s.length ≤ 1000000) {j : Int} (hj : mget ps id = some j) :
    Calls Tryz.prog 161 #[.pointer (some ⟨tb, 0, none⟩), .int .i64 id, .int .i64 t] w fun e w' => e = .returned (.tuple #[]) ∧ TmAt w' ok tb (tSet s id t) ∧ Keep ok w w' := by
  have hlk := hT.look hw
  obtain ⟨m, t', rfl, hm, hml, hms⟩ := hO.there hj
  rw [hj] at hlk
  have hlk : (Instr.lookup 241 (.map (some mb)) (.int .i64 id) true).run Tryz.prog w = .ok (.tuple #[.int .i64 (m : Int), .bool true]) w := hlk
  obtain ⟨t0, t1, htl⟩ := hT.tcells
  have hll : l.length = s.length := hO.perm.length_eq
  have hpl := hO.pos.length hT.map.nodup
  have hmx : ps.length < maxLen := by unfold maxLen; omega
  have HT := Lib.hid hT
  have HO := Lib.hid hO
  have HM := Lib.hid hm
  have HLL := Lib.hid hll
  have hwf : ∀ p ∈ l, (Lit.int .i64 p.1).wf = true := fun p hp => hO.wf p (hO.perm.mem_iff.1 hp)
  have HWF := Lib.hid hwf
  have HNP := Lib.hid hO.nodup
  clear hT hO hj hm hms hll hpl hwf
  go_enter Tryz.func161, Tryz.ntmps161
  go_wp2_with fail
  refine Calls.mono (put_any w ok tb v mb l ps m (id, t) HT.out hml hw hmx) ?_
  rintro e w1 ⟨rfl, hT1, hK1⟩
  have hx1 : (l.set m (id, t))[m]? = some (id, t) := set_at hml
  have hP1 : Pos (l.set m (id, t)) (mput ps id m) := HO.out.pos.set HM.out t
  have hH1 : Hole (l.set m (id, t)) m := (HO.out.heap.hole m).set _
  have hw1 : ∀ p ∈ l.set m (id, t), (Lit.int .i64 p.1).wf = true := fun p hp => by
    rcases List.mem_or_eq_of_mem_set hp with h | h
    · exact HWF.out p h
    · rw [h]; exact hw
  have hl1 : (mput ps id m).length < maxLen := by
    rw [hP1.length hT1.map.nodup, List.length_set, HLL.out]; unfold maxLen; omega
  have hp1 : (l.set m (id, t)).Perm ((id, t) :: tDrop s id) := by
    refine (set_perm_of HM.out).trans (List.Perm.cons _ ?_)
    have e : tDrop l id = l.eraseIdx m := drop_of_pos HO.out.pos.nodup HM.out
    rw [← e]
    exact HO.out.perm.filter _
  have hll1 : (l.set m (id, t)).length ≤ 1000000 := by rw [List.length_set, HLL.out]; exact hs
  have HT1 := Lib.hid hT1
  have HK1 := Lib.hid (HT.out.toKeep hK1)
  have HP1 := Lib.hid hP1
  have HX1 := Lib.hid hx1
  have HH1 := Lib.hid hH1
  have HW1 := Lib.hid hw1
  have HPE := Lib.hid hp1
  clear hT1 hK1 hx1 hP1 hH1 hw1 hp1 hlk t0 t1
  generalize l.set m (id, t) = l1 at *
  generalize mput ps id (m : Int) = ps1 at *
  go_wp2_with fail
  refine Calls.mono (up_any w1 ok tb v mb l1 ps1 m (id, t) HT1.out HX1.out HP1.out HH1.out HW1.out hl1) ?_
  rintro e w2 ⟨rfl, l2, ps2, k2, q1, q2, q3, q4, q5, q6, q7, q8⟩
  have hlk2 := q7.look1 hw
  have hg2 : mget ps2 id = some (k2 : Int) := (q5 id k2).2 ⟨k2, rfl, by rw [q3]; rfl⟩
  rw [hg2] at hlk2
  have hlk2 : (Instr.lookup 241 (.map (some mb)) (.int .i64 id) false).run Tryz.prog w2 = .ok (.int .i64 (k2 : Int)) w2 := hlk2
  obtain ⟨t0, t1, htl2⟩ := q7.tcells
  have hw2 : ∀ p ∈ l2, (Lit.int .i64 p.1).wf = true := fun p hp => HW1.out p (q1.mem_iff.1 hp)
  have hl2 : ps2.length < maxLen := by rw [q6]; exact hl1
  have hll2 : l2.length ≤ 1000000 := by rw [q1.length_eq]; exact hll1
  have Q := Lib.hid (And.intro q1 (And.intro q2 (And.intro q3 (And.intro q4 (And.intro q5 q7)))))
  have HW2 := Lib.hid hw2
  have HK2 := Lib.hid (HK1.out.trans ((HT1.out.toKeep q8).mono (fun _ _ h => .inl h)))
  clear q1 q2 q3 q4 q5 q6 q7 q8 hg2 hw2
  go_wp2_with fail
  refine Calls.mono (down_any w2 ok tb v mb l2 ps2 k2 (id, t) Q.out.2.2.2.2.2 Q.out.2.2.1 Q.out.2.2.2.2.1 Q.out.2.1 Q.out.2.2.2.1 HW2.out hl2 hll2) ?_
  rintro e w3 ⟨rfl, l3, ps3, r1, r2, r3, r4, r5, r6⟩
  go_wp2_with fail
  go_end0
  exact ⟨rfl, ⟨v, mb, l3, ps3, r5, TmOk.of_new hw ⟨HO.out.row, HNP.out⟩ HO.out.wf HPE.out (r1.trans Q.out.1) r3 r2⟩, HK2.out.trans ((Q.out.2.2.2.2.2.toKeep r6).mono (fun _ _ h => .inl h))⟩

set_option maxHeartbeats 800000 in
theorem timerSet_new (w : World) (ok : Nat → Prop) (tb : Nat) (v : Value) (mb : Nat) (l : List It) (ps : List (Int × Int)) (s : List It) (id t : Int) (hT : TmV w ok tb v mb l ps) (hO : TmOk l ps s) (hw : (Lit.int .i64 id).wf = true) (hs : s.length < 1000000) (hj : mget ps id = none) :
    Calls Tryz.prog 161 #[.pointer (some ⟨tb, 0, none⟩), .int .i64 id, .int .i64 t] w fun e w' => e = .returned (.tuple #[]) ∧ TmAt w' (fun k => ok k ∨ w.heap.size ≤ k) tb (tSet s id t) ∧ Keep ok w w' := by
  have hlk := hT.look hw
  rw [hj] at hlk
  have hlk : (Instr.lookup 241 (.map (some mb)) (.int .i64 id) true).run Tryz.prog w = .ok (.tuple #[.int .i64 0, .bool false]) w := hlk
  obtain ⟨t0, t1, htl⟩ := hT.tcells
  have hll : l.length = s.length := hO.perm.length_eq
  obtain ⟨A, c, rfl, hlc, hC⟩ := Kd.R_reads hT.row
  have hlm := Kd.C_max hC
  have HT := Lib.hid hT
  have HO := Lib.hid hO
  have HJ := Lib.hid hj
  have hl16 : (l.length + 1) * 16 ≤ 140737488355328 := by omega
  have HLL := Lib.hid hll
  clear hT hO hj hll hC
  go_enter Tryz.func161, Tryz.ntmps161
  go_wp2_with (at_builtin; refine Kd.R_append KIt (w0 := w) 0 rfl (.tmp 28) (.tmp 30) 240 245 (.agg #[.int .i64 0, .int .i64 0]) 16 rfl Tryz.underlying240 info_item rfl (by decide) (by omega) (.slice A l.length c) l (0, 0) [.int .i64 0, .int .i64 0] (fun k => (ok k ∧ k ≠ tb ∧ k ≠ mb) ∨ w.heap.size ≤ k) (fun _ => False) rfl rfl (KIt_of w 0 _ (0, 0)) (fun _ h => h.elim) (fun _ h => .inr h) (Kd.R_mono HT.out.row (fun _ h => .inl h)) (Below.refl _ _) (Nat.zero_le _) hl16 ?_; intro v1 w1 h1 h2 hgr hat; obtain ⟨A1, c1, rfl⟩ := Kd.R_slice h1; have hb1 := blk_grown HT.out.hd hgr (fun e => (HT.out.row.1 tb e.symm).2.1 rfl); have u0 := blk_cell hb1 0; have f0 := blk_frozen hb1 0; simp only [List.getElem?_toArray, List.getElem?_cons_zero] at u0; have HR1 := Lib.hid h1; have HGR := Lib.hid hgr; have HB1 := Lib.hid hb1; clear h1 h2 hgr hat hb1)
  have hmx1 : w.heap.size ≤ w1.heap.size := HGR.out.size
  have hmne : mb ≠ tb := HT.out.ne
  have hmg : some mb ≠ (Value.slice A l.length c).ownBlock := fun e => (HT.out.row.1 mb e.symm).2.2 rfl
  have hT0 : TmV (w1.setCell ⟨tb, 0, none⟩ (.slice A1 (l ++ [(0, 0)]).length c1)) (fun k => ok k ∨ w.heap.size ≤ k) tb (.slice A1 (l ++ [(0, 0)]).length c1) mb (l ++ [(0, 0)]) ps := by
    refine ⟨blk_set HB1.out 0 _, ?_, ?_, .inl HT.out.oktb, .inl HT.out.okmb⟩
    · refine Kd.R_far (Kd.R_mono HR1.out (fun k hk => ?_)) (fun k hk => hk.2.1) _
      rcases hk with ⟨h1, h2, h3⟩ | hk
      · exact ⟨.inl h1, h2, h3⟩
      · exact ⟨.inr hk, by omega, by have := HT.out.map.lt; omega⟩
    · refine (HT.out.map.move (HGR.out.block mb HT.out.map.lt hmg)).move ?_
      exact Below.heap_setCell w1 _ _ mb hmne
  have hK0 : Keep ok w (w1.setCell ⟨tb, 0, none⟩ (.slice A1 (l ++ [(0, 0)]).length c1)) := by
    refine ⟨HGR.out.os, HGR.out.tape, HGR.out.output, by simpa [World.setCell] using hmx1, fun k h1 h2 => ?_⟩
    refine (Below.heap_setCell w1 _ _ k (fun e => h2 (e ▸ HT.out.oktb))).trans (HGR.out.block k h1 (fun e => ?_))
    exact h2 (HT.out.row.1 k e.symm).1
  have HT0 := Lib.hid hT0
  have HK0 := Lib.hid hK0
  have hsz0 : w.heap.size ≤ (w1.setCell ⟨tb, 0, none⟩ (.slice A1 (l ++ [(0, 0)]).length c1)).heap.size := by simpa [World.setCell] using hmx1
  have e1 : (l ++ [((0 : Int), (0 : Int))]).length = l.length + 1 := by simp
  have hT0' := hT0
  have hK0' := hK0
  have hsz0' := hsz0
  rw [e1] at hT0' hK0' hsz0'
  clear hT0 hK0 u0 f0 hlk t0 t1 hmx1 HT0 HK0 hsz0
  have hset : (l ++ [((0 : Int), (0 : Int))]).set l.length (id, t) = l ++ [(id, t)] := by simp
  go_wp2_with fail
  obtain ⟨v1, hv1⟩ : ∃ v1, v1 = Value.slice A1 (l.length + 1) c1 := ⟨_, rfl⟩
  rw [← hv1] at hT0' hK0' hsz0'
  obtain ⟨W2, hW2⟩ : ∃ W2, W2 = w1.setCell ⟨tb, 0, none⟩ v1 := ⟨_, rfl⟩
  rw [← hW2] at hT0' hK0' hsz0'
  obtain ⟨ok', hok'⟩ : ∃ ok' : Nat → Prop, ok' = fun k => ok k ∨ w.heap.size ≤ k := ⟨_, rfl⟩
  rw [← hok'] at hT0'
  have HT0 := Lib.hid hT0'
  have HK0 := Lib.hid (hK0'.mono (S' := ok') (fun k _ h => by rw [hok']; exact .inl h))
  have HOK := Lib.hid hok'
  have HS := Lib.hid hset
  have hll0 : l.length < (l ++ [((0 : Int), (0 : Int))]).length := by simp
  have hput := put_any W2 ok' tb v1 mb (l ++ [(0, 0)]) ps l.length (id, t) hT0' hll0 hw (by rw [HO.out.pos.length HT.out.map.nodup, HLL.out]; unfold maxLen; omega)
  rw [hset, hW2, hv1] at hput
  refine Calls.mono hput ?_
  clear hput hT0' hK0' hok' hset hll0 e1
  rintro e w3 ⟨rfl, hT1, hK1⟩
  rw [← hv1] at hT1 hK1
  rw [← hW2] at hK1
  have hx1 : (l ++ [(id, t)])[l.length]? = some (id, t) := by simp
  have hP1 : Pos (l ++ [(id, t)]) (mput ps id l.length) := HO.out.pos.snoc HJ.out t
  have hH1 : Hole (l ++ [(id, t)]) l.length := HO.out.heap.snoc _
  have hw1 : ∀ p ∈ l ++ [(id, t)], (Lit.int .i64 p.1).wf = true := fun p hp => by
    rcases List.mem_append.1 hp with h | h
    · exact HO.out.wf p (HO.out.perm.mem_iff.1 h)
    · rw [List.mem_singleton.1 h]; exact hw
  have hl1 : (mput ps id l.length).length < maxLen := by
    rw [hP1.length hT1.map.nodup, List.length_append, HLL.out]; unfold maxLen; simp; omega
  have hp1 : (l ++ [(id, t)]).Perm ((id, t) :: tDrop s id) := by
    rw [drop_none (HO.out.not HJ.out)]
    exact (List.perm_append_comm (l₁ := l) (l₂ := [(id, t)])).trans (List.Perm.cons _ HO.out.perm)
  have hll1 : (l ++ [(id, t)]).length ≤ 1000000 := by rw [List.length_append, HLL.out]; simp; omega
  have HV1 := Lib.hid (And.intro hv1 hW2)
  clear hv1 hW2
  have HT1 := Lib.hid hT1
  have HK1 := Lib.hid (HK0.out.trans ((HT0.out.toKeep hK1).mono (fun _ _ h => .inl h)))
  have HP1 := Lib.hid hP1
  have HX1 := Lib.hid hx1
  have HH1 := Lib.hid hH1
  have HW1 := Lib.hid hw1
  have HPE := Lib.hid hp1
  clear hT1 hK1 hx1 hP1 hH1 hw1 hp1
  generalize l ++ [(id, t)] = l1 at *
  generalize mput ps id (l.length : Int) = ps1 at *
  go_wp2_with fail
  refine Calls.mono (up_any w3 ok' tb v1 mb l1 ps1 l.length (id, t) HT1.out HX1.out HP1.out HH1.out HW1.out hl1) ?_
  rintro e w2 ⟨rfl, l2, ps2, k2, q1, q2, q3, q4, q5, q6, q7, q8⟩
  have hlk2 := q7.look1 hw
  have hg2 : mget ps2 id = some (k2 : Int) := (q5 id k2).2 ⟨k2, rfl, by rw [q3]; rfl⟩
  rw [hg2] at hlk2
  have hlk2 : (Instr.lookup 241 (.map (some mb)) (.int .i64 id) false).run Tryz.prog w2 = .ok (.int .i64 (k2 : Int)) w2 := hlk2
  obtain ⟨t0, t1, htl2⟩ := q7.tcells
  have hw2 : ∀ p ∈ l2, (Lit.int .i64 p.1).wf = true := fun p hp => HW1.out p (q1.mem_iff.1 hp)
  have hl2 : ps2.length < maxLen := by rw [q6]; exact hl1
  have hll2 : l2.length ≤ 1000000 := by rw [q1.length_eq]; exact hll1
  have Q := Lib.hid (And.intro q1 (And.intro q2 (And.intro q3 (And.intro q4 (And.intro q5 q7)))))
  have HW2 := Lib.hid hw2
  have HK2 := Lib.hid (HK1.out.trans ((HT1.out.toKeep q8).mono (fun _ _ h => .inl h)))
  clear q1 q2 q3 q4 q5 q6 q7 q8 hg2 hw2
  go_wp2_with fail
  refine Calls.mono (down_any w2 ok' tb v1 mb l2 ps2 k2 (id, t) Q.out.2.2.2.2.2 Q.out.2.2.1 Q.out.2.2.2.2.1 Q.out.2.1 Q.out.2.2.2.1 HW2.out hl2 hll2) ?_
  rintro e w4 ⟨rfl, l3, ps3, r1, r2, r3, r4, r5, r6⟩
  go_wp2_with fail
  go_end0
  refine ⟨rfl, ?_, ?_⟩
  · rw [← HOK.out]
    exact ⟨v1, mb, l3, ps3, r5, TmOk.of_new hw ⟨HO.out.row, HO.out.nodup⟩ HO.out.wf HPE.out (r1.trans Q.out.1) r3 r2⟩
  · have hk := HK2.out.trans ((Q.out.2.2.2.2.2.toKeep r6).mono (fun _ _ h => .inl h))
    refine hk.mono (fun k hk ho => ?_)
    rw [HOK.out] at ho
    rcases ho with h | h
    · exact h
    · omega
theorem timerSet_any (w : World) (ok : Nat → Prop) (tb : Nat) (s : List It) (id t : Int) (h : TmAt w ok tb s) (hw : (Lit.int .i64 id).wf = true) (hs : s.length < 1000000) :
    Calls Tryz.prog 161 #[.pointer (some ⟨tb, 0, none⟩), .int .i64 id, .int .i64 t] w fun e w' => e = .returned (.tuple #[]) ∧ TmAt w' (fun k => ok k ∨ w.heap.size ≤ k) tb (tSet s id t) ∧ Keep ok w w' := by
  obtain ⟨v, mb, l, ps, hT, hO⟩ := h
  cases hj : mget ps id with
  | none => exact timerSet_new w ok tb v mb l ps s id t hT hO hw hs hj
  | some j =>
    refine Calls.mono (timerSet_old w ok tb v mb l ps s id t hT hO hw (by omega) hj) ?_
    rintro e w' ⟨h1, h2, h3⟩
    exact ⟨h1, h2.mono (fun k hk _ => .inl hk), h3⟩
end Go.Proofs.YtipdleiginnjmaaGreatDoor
namespace Go.Proofs.YtipdleiginnjmaaGreatDoor
set_option maxRecDepth 100000
open Go.RowKit Go.Maps Go.Proofs.YtipdleiginnjmaaGreatDoorW.PrintWords

theorem TmOk.of_drop {l l3 : List It} {ps3 : List (Int × Int)} {s : List It} {id : Int} (hr : tRow s) (hwf : ∀ p ∈ s, (Lit.int .i64 p.1).wf = true) (hl : l.Perm (tDrop s id)) (h1 : l3.Perm l) (h2 : Pos l3 ps3) (h3 : Heap2 l3) : TmOk l3 ps3 (tDrop s id) :=
  ⟨h2, h3, h1.trans hl, (tDrop_row hr id).1, fun p hp => hwf p (List.mem_filter.1 hp).1⟩
theorem tDrop_none {s : List It} {id : Int} (h : ∀ p ∈ s, p.1 ≠ id) : tDrop s id = s := drop_none h
def hasId (s : List It) (id : Int) : Bool := s.any (fun p => decide (p.1 = id))
theorem hasId_false {s : List It} {id : Int} (h : ∀ p ∈ s, p.1 ≠ id) : hasId s id = false := by
  unfold hasId
  rw [List.any_eq_false]
  intro p hp
  simpa using h p hp
theorem hasId_true {s : List It} {id t : Int} (h : (id, t) ∈ s) : hasId s id = true := by
  unfold hasId
  rw [List.any_eq_true]
  exact ⟨_, h, by simp⟩

set_option maxHeartbeats 1600000 in
theorem timerDrop_any (w : World) (ok : Nat → Prop) (tb : Nat) (s : List It) (id : Int) (h : TmAt w ok tb s) (hw : (Lit.int .i64 id).wf = true) (hs : s.length ≤ 1000000) :
    Calls Tryz.prog 162 #[.pointer (some ⟨tb, 0, none⟩), .int .i64 id] w fun e w' => e = .returned (.bool (hasId s id)) ∧ TmAt w' ok tb (tDrop s id) ∧ Keep ok w w' := by
  have hA := h
  obtain ⟨v, mb, l, ps, hT, hO⟩ := h
  have hlk := hT.look hw
  cases hj : mget ps id with
  | none =>
    rw [hj] at hlk
    have hlk : (Instr.lookup 241 (.map (some mb)) (.int .i64 id) true).run Tryz.prog w = .ok (.tuple #[.int .i64 0, .bool false]) w := hlk
    rw [hasId_false (hO.not hj), tDrop_none (hO.not hj)]
    obtain ⟨t0, t1, htl⟩ := hT.tcells
    have HA := Lib.hid hA
    clear hT hO hj hA
    go_enter Tryz.func162, Tryz.ntmps162
    go_wp2
    go_ret
    exact ⟨rfl, HA.out, Keep.refl _ _⟩
  | some j =>
    obtain ⟨m, t, rfl, hm, hml, hms⟩ := hO.there hj
    rw [hj] at hlk
    have hlk : (Instr.lookup 241 (.map (some mb)) (.int .i64 id) true).run Tryz.prog w = .ok (.tuple #[.int .i64 (m : Int), .bool true]) w := hlk
    rw [hasId_true hms]
    have hll : l.length = s.length := hO.perm.length_eq
    obtain ⟨n, hn⟩ : ∃ n, l.length = n + 1 := ⟨l.length - 1, by omega⟩
    obtain ⟨y, hy⟩ : ∃ y, l[n]? = some y := ⟨l[n]'(by omega), List.getElem?_eq_getElem (by omega)⟩
    have t1 := hT.tcells.2.1
    obtain ⟨g, cap, rfl, hgl, htl, t0, e0, e1, hlc, hlm⟩ := hT.cells hy
    rw [hn] at t0 hlc hlm hT
    have i0 : (0 : Int) ≤ (n : Int) := by omega
    have i1 : (n : Int) < ((n + 1 : Nat) : Int) := by omega
    have hwr : IntKind.i64.wrap (((n + 1 : Nat) : Int) - 1) = (n : Int) := by rw [IntWalk.i64_in _ (by omega)]; omega
    have f0 := blk_frozen hT.hd 0
    obtain ⟨ii, hi, _, hz1, _⟩ := info_parts info_item
    have hcut := run_take (P := Tryz.prog) 240 245 Tryz.underlying240 hi (some ⟨g, 0, none⟩) (n + 1) cap n (by omega) hlc
    have HT := Lib.hid hT
    have HO := Lib.hid hO
    have HJ := Lib.hid hj
    have HM := Lib.hid hm
    have HY := Lib.hid hy
    have HN := Lib.hid hn
    have HLL := Lib.hid hll
    clear hT hO hj hm hy hn hll hA hi hz1 hms
    go_enter Tryz.func162, Tryz.ntmps162
    go_wp2_with fail
    go_region
    obtain ⟨lb, hlb⟩ : ∃ lb, lb = w.heap.size := ⟨_, rfl⟩
    obtain ⟨W1, hW1⟩ : ∃ W1, W1 = (w.alloc (.cells #[.int .i64 y.1, .int .i64 y.2] 245)).drew := ⟨_, rfl⟩
    rw [← hW1, ← hlb]
    have hB1 : Below w.heap.size w W1 := by rw [hW1]; exact below_drew (below_alloc (Below.refl _ _) _)
    have hbx1 : W1.heap[lb]? = some (.cells #[.int .i64 y.1, .int .i64 y.2] 245 (0, 0)) := by rw [hW1, hlb]; exact heap_alloc_new _ _
    have hT1 : TmV W1 ok tb (.slice (some ⟨g, 0, none⟩) (n + 1) cap) mb l ps := HT.out.move (fun k _ hk => hB1.block k hk)
    have hlt : lb ≠ tb := by omega
    have HB1 := Lib.hid hB1
    have HT1 := Lib.hid hT1
    have HX1 := Lib.hid hbx1
    have HLB := Lib.hid hlb
    have t0 := hT1.tcells.1
    have t1 := hT1.tcells.2.1
    have f0 := blk_frozen hT1.hd 0
    clear hlb hW1 hB1 hbx1 hT1 e0 e1 hlk i0 i1 t0 t1 f0
    have t0 := HT1.out.tcells.1
    have t1 := HT1.out.tcells.2.1
    have f0 := blk_frozen HT1.out.hd 0
    go_wp2_with fail
    go_region
    have hmlt : mb < W1.heap.size := HT1.out.map.lt
    obtain ⟨W2, hW2⟩ : ∃ W2, W2 = (W1.setCell ⟨tb, 0, none⟩ (.slice (some ⟨g, 0, none⟩) n cap)).drew := ⟨_, rfl⟩
    rw [← hW2]
    have hm2 : ∀ k, k ≠ tb → W2.heap[k]? = W1.heap[k]? := fun k hk => by rw [hW2]; exact Below.heap_setCell W1 _ _ k hk
    have hT2 : TmV W2 ok tb (.slice (some ⟨g, 0, none⟩) n cap) mb (l.take n) ps := by
      refine ⟨by rw [hW2]; exact blk_set HT1.out.hd 0 _, ?_, HT1.out.map.move (hm2 mb HT1.out.ne), HT1.out.oktb, HT1.out.okmb⟩
      exact Kd.R_step (Kd.R_take HT1.out.row (by rw [HN.out]; omega)) (fun k hk _ => hm2 k hk.2.1)
    have hbx2 : W2.heap[lb]? = some (.cells #[.int .i64 y.1, .int .i64 y.2] 245 (0, 0)) := (hm2 lb hlt).trans HX1.out
    have hlm2 : lb ≠ mb := Ne.symm (hT2.map.ne_cells hbx2)
    have hsz2 : W2.heap.size = W1.heap.size := by rw [hW2]; simp [World.setCell]
    have hK2 : Keep ok w W2 := by
      refine ⟨?_, ?_, ?_, by rw [hsz2]; exact HB1.out.size, fun k h1 h2 => (hm2 k (fun e => h2 (e ▸ HT1.out.oktb))).trans (HB1.out.block k h1)⟩
      · rw [hW2]; exact HB1.out.os
      · rw [hW2]; exact HB1.out.tape
      · rw [hW2]; exact HB1.out.output
    have HT2 := Lib.hid hT2
    have HX2 := Lib.hid hbx2
    have HK2 := Lib.hid hK2
    have t1 := hT2.tcells.2.1
    clear hW2 hm2 hT2 hbx2 hsz2 hK2 t0 f0 hmlt
    go_wp2_with (at_delete; refine wpList_del_at HT2.out.map rfl _ _ _ _ rfl under_map rfl id rfl hw ?_; intro w3 hM3 hB3; have HM3 := Lib.hid hM3; have HB3 := Lib.hid hB3; have b0 := blk_cell (hB3.blk HX2.out hlm2) 0; have b1 := blk_cell (hB3.blk HX2.out hlm2) 1; simp only [List.getElem?_toArray, List.getElem?_cons_succ, List.getElem?_cons_zero] at b0 b1; clear hM3 hB3)
    · have hyi : y.1 = id := by assumption
      have hmn : m = n := HO.out.pos.inj HM.out HY.out hyi.symm
      have hT3 : TmV w3 ok tb (.slice (some ⟨g, 0, none⟩) n cap) mb (l.take n) (mdel ps id) :=
        ⟨HB3.out.blk HT2.out.hd (Ne.symm HT2.out.ne), Kd.R_step HT2.out.row (fun k hk _ => HB3.out.2.2.2.2 k hk.2.2), HM3.out, HT2.out.oktb, HT2.out.okmb⟩
      have hP : Pos (l.take n) (mdel ps id) := by rw [← hyi]; exact HO.out.pos.take HN.out HY.out
      have hpm : (l.take n).Perm (tDrop s id) := by
        have e : tDrop l id = l.eraseIdx m := drop_of_pos HO.out.pos.nodup HM.out
        have e2 : l.eraseIdx m = l.take n := by
          rw [hmn, List.eraseIdx_eq_take_drop_succ, List.drop_eq_nil_of_le (by rw [HN.out]; omega), List.append_nil]
        rw [← e2, ← e]
        exact HO.out.perm.filter _
      go_ret
      exact ⟨rfl, ⟨_, mb, _, _, hT3, TmOk.of_drop ⟨HO.out.row, HO.out.nodup⟩ HO.out.wf hpm (List.Perm.refl _) hP (HO.out.heap.take n)⟩, HK2.out.trans (HB3.out.keep (.inl HT2.out.okmb))⟩
    · have hyi : ¬ y.1 = id := by assumption
      have hmn : m ≠ n := fun e => by
        have h1 := HM.out
        rw [e, HY.out] at h1
        exact hyi (by rw [Option.some.inj h1])
      have hT3 : TmV w3 ok tb (.slice (some ⟨g, 0, none⟩) n cap) mb (l.take n) (mdel ps id) :=
        ⟨HB3.out.blk HT2.out.hd (Ne.symm HT2.out.ne), Kd.R_step HT2.out.row (fun k hk _ => HB3.out.2.2.2.2 k hk.2.2), HM3.out, HT2.out.oktb, HT2.out.okmb⟩
      have hln : (l.take n).length = n := by rw [List.length_take, HN.out]; omega
      have hml2 : m < (l.take n).length := by rw [hln]; have := HN.out; omega
      have hwy : (Lit.int .i64 y.1).wf = true := HO.out.wf y (HO.out.perm.mem_iff.1 (List.mem_of_getElem? HY.out))
      have hlp : (mdel ps id).length < maxLen := by
        have h1 := mdel_length HT.out.map.nodup id
        have h2 := HO.out.pos.length HT.out.map.nodup
        have h3 := HLL.out
        unfold maxLen
        omega
      refine Calls.mono (put_any w3 ok tb _ mb (l.take n) (mdel ps id) m y hT3 hml2 hwy hlp) ?_
      rintro e w4 ⟨rfl, hT4, hK4⟩
      have hP1 : Pos ((l.take n).set m y) (mput (mdel ps id) y.1 m) := HO.out.pos.swapOut HN.out HY.out HM.out hmn
      have hH1 : Hole ((l.take n).set m y) m := ((HO.out.heap.take n).hole m).set _
      have hx1 : ((l.take n).set m y)[m]? = some y := set_at hml2
      have hpm : ((l.take n).set m y).Perm (tDrop s id) := by
        have e : tDrop l id = l.eraseIdx m := drop_of_pos HO.out.pos.nodup HM.out
        refine (eraseIdx_set_perm HN.out HY.out (by omega)).trans ?_
        rw [← e]
        exact HO.out.perm.filter _
      have hw1 : ∀ p ∈ (l.take n).set m y, (Lit.int .i64 p.1).wf = true := fun p hp => HO.out.wf p (List.mem_filter.1 (hpm.mem_iff.1 hp)).1
      have hl1 : (mput (mdel ps id) y.1 m).length < maxLen := by
        rw [hP1.length hT4.map.nodup, List.length_set, hln]; unfold maxLen; have := HN.out; have := HLL.out; omega
      have hll1 : ((l.take n).set m y).length ≤ 1000000 := by rw [List.length_set, hln]; have := HN.out; have := HLL.out; omega
      have hnx : ¬ TmS (.slice (some ⟨g, 0, none⟩) n cap) mb lb := by
        rintro (e | e)
        · exact hlm2 e
        · have : g = lb := Option.some.inj e
          have := HLB.out
          omega
      have hX3 := HB3.out.blk HX2.out hlm2
      have hX4 := (hK4.block lb (blk_lt hX3) hnx).trans hX3
      have HX4 := Lib.hid hX4
      have HNX := Lib.hid hnx
      have HT4 := Lib.hid hT4
      have HK4 := Lib.hid ((HK2.out.trans (HB3.out.keep (.inl HT2.out.okmb))).trans ((hT3.toKeep hK4).mono (fun _ _ h => .inl h)))
      have HP1 := Lib.hid hP1
      have HX1' := Lib.hid hx1
      have HH1 := Lib.hid hH1
      have HW1 := Lib.hid hw1
      have HPE := Lib.hid hpm
      clear hT3 hT4 hK4 hP1 hx1 hH1 hw1 hpm hX3 hX4 hnx b0 b1 hyi t1 hln hml2
      generalize (l.take n).set m y = l1 at *
      generalize mput (mdel ps id) y.1 (m : Int) = ps1 at *
      go_wp2_with fail
      refine Calls.mono (up_any w4 ok tb _ mb l1 ps1 m y HT4.out HX1'.out HP1.out HH1.out HW1.out hl1) ?_
      rintro e w5 ⟨rfl, l2, ps2, k2, q1, q2, q3, q4, q5, q6, q7, q8⟩
      have hlk2 := q7.look1 hwy
      have hg2 : mget ps2 y.1 = some (k2 : Int) := (q5 y.1 k2).2 ⟨k2, rfl, by rw [q3]; rfl⟩
      rw [hg2] at hlk2
      have hlk2 : (Instr.lookup 241 (.map (some mb)) (.int .i64 y.1) false).run Tryz.prog w5.drew = .ok (.int .i64 (k2 : Int)) w5.drew := by
        have h := (q7.move (w' := w5.drew) (fun _ _ _ => rfl)).look1 hwy
        rw [hg2] at h
        exact h
      have t1 := q7.tcells.2.1
      have htl5 := q7.tcells.2.2
      have hX5 := (q8.block lb (blk_lt HX4.out) HNX.out).trans HX4.out
      have b0 := blk_cell hX5 0
      simp only [List.getElem?_toArray, List.getElem?_cons_zero] at b0
      have hw2 : ∀ p ∈ l2, (Lit.int .i64 p.1).wf = true := fun p hp => HW1.out p (q1.mem_iff.1 hp)
      have hl2 : ps2.length < maxLen := by rw [q6]; exact hl1
      have hll2 : l2.length ≤ 1000000 := by rw [q1.length_eq]; exact hll1
      have Q := Lib.hid (And.intro q1 (And.intro q2 (And.intro q3 (And.intro q4 (And.intro q5 q7)))))
      have HW2 := Lib.hid hw2
      have HK5 := Lib.hid (HK4.out.trans ((HT4.out.toKeep q8).mono (fun _ _ h => .inl h)))
      clear q1 q2 q3 q4 q5 q6 q7 q8 hg2 hw2 hX5
      go_wp2_with fail
      go_region_with ((go_at_call 202; refine Calls.mono (down_any _ ok tb _ mb l2 ps2 k2 y (Q.out.2.2.2.2.2.move (fun _ _ _ => rfl)) Q.out.2.2.1 Q.out.2.2.2.2.1 Q.out.2.1 Q.out.2.2.2.1 HW2.out hl2 hll2) ?_; rintro e w6 ⟨rfl, l3, ps3, r1, r2, r3, r4, r5, r6⟩))
      all_goals
        go_wp2
        go_ret
        exact ⟨rfl, ⟨_, mb, l3, ps3, r5, TmOk.of_drop ⟨HO.out.row, HO.out.nodup⟩ HO.out.wf HPE.out (r1.trans Q.out.1) r3 r2⟩, HK5.out.trans ((Q.out.2.2.2.2.2.toKeep r6.undrew).mono (fun _ _ h => .inl h))⟩
end Go.Proofs.YtipdleiginnjmaaGreatDoor
namespace Go.Proofs.YtipdleiginnjmaaGreatDoor
set_option maxRecDepth 100000
open Go.RowKit Go.Maps Go.Proofs.YtipdleiginnjmaaGreatDoorW.PrintWords

set_option maxHeartbeats 400000 in
theorem mapsClone_any (b : Nat) (es : Array MapEntry) (clock : Nat) (w : World) (hb : w.heap[b]? = some (.map es clock)) :
    Calls Tryz.prog 136 #[.map (some b)] w fun e w' => e = .returned (.map (some w.heap.size)) ∧ w' = w.alloc (.map es clock) := by
  have hq := fun w => run_eql_map_nil_sl (P := Tryz.prog) w 241 _ _ (some b) under_map
  go_enter Tryz.func136, Tryz.ntmps136
  go_wp2
  rw [run_callFunc_extern Tryz.func84 (by kernel_rfl) (by kernel_rfl) (by kernel_rfl) (e := Extern.MapsClone.clone) (by kernel_rfl), run_maps_clone_sl w 241 hb]
  simp only [Result.andThen]
  rw [Oper.upon_value]
  go_wp2
  rw [run_typeAssert_map_sl _ 241 20 _ _ _ under_map]
  simp only [Result.andThen]
  rw [Oper.upon_value]
  go_wp2
  go_ret
  exact ⟨rfl, rfl⟩
theorem mapsClone_at (w0 w : World) (b : Nat) (ps : List (Int × Int)) (h : MapAt KTI (.int .i64) w0 b ps) (hB : Below w0.heap.size w0 w) :
    Calls Tryz.prog 136 #[.map (some b)] w fun e w' => ∃ c, e = .returned (.map (some c)) ∧ MapAt KTI (.int .i64) w' c ps ∧ w.heap.size ≤ c ∧ Below w.heap.size w w' := by
  obtain ⟨es, clock, h1, h2⟩ := h.clone
  refine (mapsClone_any b es clock w ((hB.block b h.lt).trans h1)).mono ?_
  rintro e w' ⟨rfl, rfl⟩
  exact ⟨_, rfl, h2 _ _ (heap_alloc_new w _), Nat.le_refl _, below_alloc (Below.refl _ _) _⟩

set_option maxHeartbeats 400000 in
theorem clone_it (A : Option Addr) (n c : Nat) (xs : List It) (w : World) (hn : xs.length = n) (hC : KIt.C w A n xs) (hc : n ≤ c) (hb : n * 16 ≤ 140737488355328) :
    Calls Tryz.prog 135 #[.slice A n c] w fun e w' => ∃ A' c', e = .returned (.slice A' n c') ∧ KIt.R 245 w' w.heap.size (fun _ => True) (.slice A' n c') xs ∧ Below w.heap.size w w' := by
  subst hn
  have hnil := fun (w : World) (a : Option Addr) (n c : Nat) => Lib.run_eql_slice_nil (P := Tryz.prog) w 240 245 a n c 0 0 Tryz.underlying240
  cases A with
  | none =>
    have h0 : xs = [] := by
      by_cases h : 0 < xs.length
      · obtain ⟨ad, h1, _⟩ := hC.2.2 h; cases h1
      · exact List.eq_nil_of_length_eq_zero (by omega)
    subst h0
    go_enter Tryz.func135, Tryz.ntmps135
    go_wp2
    go_ret
    exact ⟨_, _, rfl, Kd.R_nil _ _ _ _ _, Below.refl _ _⟩
  | some ad =>
    go_enter Tryz.func135, Tryz.ntmps135
    go_wp2_with (at_builtin; refine Kd.R_append_rows KIt (w0 := w) w.heap.size rfl (.tmp 5) (.tmp 6) 240 245 (.agg #[.int .i64 0, .int .i64 0]) 16 rfl Tryz.underlying240 info_item rfl (by decide) (by omega) (.slice (some ⟨w.heap.size, 0, none⟩) 0 0) [] xs (some ad) xs.length c (fun _ => True) (fun _ => False) rfl rfl ?a1 ?a2 (fun _ _ h => h) (fun _ h => h.elim) (fun _ _ => trivial) (below_alloc (Below.refl _ _) _) ?a3 ?a4 ?a5)
    case a1 => exact R_empty _ _ _ _ _ (Nat.le_refl _) trivial
    case a2 => exact Kd.C_alloc hC _
    case a3 => simp
    case a4 => simpa using hb
    case a5 =>
      intro v1 w1 h1 h2 _ _
      obtain ⟨A', c', hv⟩ := Kd.R_slice h1
      have HV := Lib.hid hv
      clear hv
      go_wp2
      go_ret
      exact ⟨A', c', by rw [HV.out]; simp, by rw [HV.out] at h1; simpa using h1, h2⟩

set_option maxHeartbeats 800000 in
theorem timerCopy_any (w : World) (ok : Nat → Prop) (tb : Nat) (s : List It) (h : TmAt w ok tb s) (hs : s.length ≤ 1000000) :
    Calls Tryz.prog 86 #[.pointer (some ⟨tb, 0, none⟩)] w fun e w' => ∃ cb, e = .returned (.pointer (some ⟨cb, 0, none⟩)) ∧ TmAt w' (fun k => w.heap.size ≤ k) cb s ∧ Below w.heap.size w w' := by
  obtain ⟨v, mb, l, ps, hT, hO⟩ := h
  have hll : l.length = s.length := hO.perm.length_eq
  obtain ⟨A, c, rfl, hlc, hC⟩ := Kd.R_reads hT.row
  obtain ⟨t0, t1, htl⟩ := hT.tcells
  have hM := hT.map
  have hl16 : l.length * 16 ≤ 140737488355328 := by omega
  have HO := Lib.hid hO
  have HC := Lib.hid hC
  have HM := Lib.hid hM
  clear hT hO hC hM hll
  go_enter Tryz.func86, Tryz.ntmps86
  go_wp2_with fail
  go_region_held3 (fun w' => w'.cell? ⟨tb, 0, none⟩ = some (.slice A l.length c) ∧ w'.cell? ⟨tb, 1, none⟩ = some (.map (some mb))) (first | go_keep | (go_split_ands; exact ⟨cell_later hB (by assumption), cell_later hB (by assumption)⟩) | (go_split_ands; exact ⟨cell_later hB2 (by assumption), cell_later hB2 (by assumption)⟩))
    (first
      | (go_at_call 135; refine Calls.mono (clone_it _ _ _ l _ rfl (by first | exact Kd.C_below HC.out (below_drew (Below.refl _ _)) | exact Kd.C_below (Kd.C_below HC.out (below_drew (Below.refl _ _))) hB2) hlc hl16) ?_; rintro e w1 ⟨A', c', rfl, hR, hB⟩)
      | (go_at_call 136; refine Calls.mono (mapsClone_at w _ _ _ HM.out (by first | exact below_drew (Below.refl _ _) | exact (below_drew (Below.refl _ _)).trans hB)) ?_; rintro e w2 ⟨cm, rfl, hM2, hcm, hB2⟩))
  go_wp2
  go_ret
  have hB1 : Below w.heap.size w w1 := (below_drew (Below.refl _ _)).trans hB
  have hBB : Below w.heap.size w w2 := hB1.trans (hB2.mono hB1.size)
  have hs1 : w.heap.size ≤ w1.heap.size := hB1.size
  have hR2 := Kd.R_below hR hB2
  have hcl : cm < w2.heap.size := hM2.lt
  refine ⟨_, rfl, ⟨.slice A' l.length c', cm, l, ps, ⟨heap_alloc_new _ _, ?_, hM2.below (below_alloc (Below.refl _ _) _), ?_, ?_⟩, HO.out⟩, below_alloc hBB _⟩
  · have hs2 := hB2.size
    refine Kd.R_alloc (Kd.R_mono (Kd.R_below (R_fresh hR) hB2) (fun k hk => ⟨hk.1, ?_, ?_⟩)) _
    · have := hk.2
      omega
    · have := hk.2
      omega
  · show w.heap.size ≤ w2.heap.size
    exact hBB.size
  · show w.heap.size ≤ cm
    omega
end Go.Proofs.YtipdleiginnjmaaGreatDoor
namespace Go.Proofs.YtipdleiginnjmaaGreatDoor
set_option maxRecDepth 100000
open Go.RowKit Go.Maps Go.Proofs.YtipdleiginnjmaaGreatDoorW.PrintWords

/-- How many of the first are due. -/
def tDue (s : List It) (now : Int) : Nat := (s.takeWhile (fun p => decide (p.2 ≤ now))).length
theorem tDue_le (s : List It) (now : Int) : tDue s now ≤ s.length := by
  unfold tDue
  exact (List.takeWhile_sublist _).length_le
theorem tDue_nil (now : Int) : tDue [] now = 0 := rfl
theorem tDue_cons (p : It) (s : List It) (now : Int) : tDue (p :: s) now = if p.2 ≤ now then tDue s now + 1 else 0 := by
  unfold tDue
  by_cases h : p.2 ≤ now <;> simp [h]
theorem tDrop_head {x : It} {s : List It} (h : tRow (x :: s)) : tDrop (x :: s) x.1 = s := by
  have hn := h.2
  rw [List.map_cons, List.nodup_cons] at hn
  have : tDrop (x :: s) x.1 = tDrop s x.1 := by unfold tDrop; simp
  rw [this, drop_none]
  intro p hp e
  exact hn.1 (by rw [← e]; exact List.mem_map_of_mem hp)

/-- Where Due stands: what was taken out, and what is left. -/
structure DueAt (s : List It) (now : Int) (out s' : List It) : Prop where
  all : s = out ++ s'
  due : ∀ p ∈ out, p.2 ≤ now
theorem tDue_split {out s' : List It} {now : Int} (h : ∀ p ∈ out, p.2 ≤ now) : tDue (out ++ s') now = out.length + tDue s' now := by
  induction out with
  | nil => simp
  | cons p out ih =>
    rw [List.cons_append, tDue_cons, if_pos (h p (by simp)), ih (fun q hq => h q (List.mem_cons_of_mem _ hq)), List.length_cons]
    omega
theorem DueAt.done {s out s' : List It} {now : Int} (h : DueAt s now out s') (hd : tDue s' now = 0) : out = s.take (tDue s now) ∧ s' = s.drop (tDue s now) := by
  have e : tDue s now = out.length := by rw [h.all, tDue_split h.due, hd]; rfl
  rw [e, h.all]
  simp
theorem DueAt.step {s out s' : List It} {now : Int} {x : It} (h : DueAt s now out (x :: s')) (hx : x.2 ≤ now) : DueAt s now (out ++ [x]) s' := by
  refine ⟨by rw [h.all]; simp, fun p hp => ?_⟩
  rcases List.mem_append.1 hp with hp | hp
  · exact h.due p hp
  · rw [List.mem_singleton.1 hp]; exact hx

set_option maxHeartbeats 1600000 in
theorem timerDue_any (w : World) (ok : Nat → Prop) (tb : Nat) (s : List It) (now : Int) (h : TmAt w ok tb s) (hs : s.length ≤ 1000000) :
    Calls Tryz.prog 191 #[.pointer (some ⟨tb, 0, none⟩), .int .i64 now] w fun e w' => ∃ v, e = .returned v ∧ KIt.R 245 w' w.heap.size (fun _ => True) v (s.take (tDue s now)) ∧ TmAt w' (fun k => ok k ∧ k < w.heap.size) tb (s.drop (tDue s now)) ∧ Keep ok w w' := by
  have h := h.mono (ok' := fun k => ok k ∧ k < w.heap.size) (fun k hk hl => ⟨hk, hl⟩)
  have H := Lib.hid h
  clear h
  go_enter Tryz.func191, Tryz.ntmps191
  go_wp2_with fail
  refine Calls.mono (timerNext_any w _ tb s H.out) ?_
  rintro e w1 ⟨rfl, hB1⟩
  have HB1 := Lib.hid hB1
  clear hB1
  go_wp2_with fail
  obtain ⟨okb, hokb⟩ : ∃ okb : Nat → Prop, okb = fun k => ok k ∧ k < w.heap.size := ⟨_, rfl⟩
  have hob : ∀ k, okb k → ok k ∧ k < w.heap.size := fun k hk => by rw [hokb] at hk; exact hk
  have H' := Lib.hid (show TmAt w okb tb s by rw [hokb]; exact H.out)
  have HOB := Lib.hid hob
  have HOKB := Lib.hid hokb
  have hr0 : w1.heap.size < (w1.alloc (.cells #[.int .i64 (itFirst s).1.1, .int .i64 (itFirst s).1.2] 245)).heap.size := by simp
  have hbx := heap_alloc_new w1 (.cells #[.int .i64 (itFirst s).1.1, .int .i64 (itFirst s).1.2] 245)
  have hB2 := HB1.out.trans ((below_alloc (Below.refl _ w1) (.cells #[.int .i64 (itFirst s).1.1, .int .i64 (itFirst s).1.2] 245)).mono HB1.out.size)
  have hsz1 := HB1.out.size
  generalize w1.alloc (.cells #[.int .i64 (itFirst s).1.1, .int .i64 (itFirst s).1.2] 245) = W2 at *
  have HB2 := Lib.hid hB2
  have HBX := Lib.hid hbx
  clear hokb hob hbx hB2
  go_loopg [5, 6, 7] s.length (fun gn u5 u6 u7 wr => ∃ (out s' : List It) (xb : Nat), s'.length ≤ gn ∧ u6 = .pointer (some ⟨xb, 0, none⟩) ∧ u7 = .bool (itFirst s').2 ∧ DueAt s now out s' ∧ TmAt wr okb tb s' ∧ KIt.R 245 wr w.heap.size (fun k => k ≠ xb) u5 out ∧ wr.heap[xb]? = some (.cells #[.int .i64 (itFirst s').1.1, .int .i64 (itFirst s').1.2] 245 (0, 0)) ∧ w.heap.size ≤ xb ∧ Keep okb w wr)
  case atStart => exact ⟨[], s, w1.heap.size, Nat.le_refl _, rfl, rfl, ⟨rfl, by simp⟩, H'.out.below HB2.out, Kd.R_nil _ _ _ _ _, HBX.out, hsz1, Keep.of_below HB2.out _⟩
  case round =>
    obtain ⟨out, s', xb, hgn, rfl, rfl, hD, hT, hR, hbx, hxw, hK⟩ := hrel
    have HD := Lib.hid hD
    have HT := Lib.hid hT
    have HR := Lib.hid hR
    have HK := Lib.hid hK
    have hol : out.length + s'.length = s.length := by rw [hD.all, List.length_append]
    clear hD hT hR hK
    cases s' with
    | nil =>
      have hdone := HD.out.done rfl
      have HDN := Lib.hid hdone
      clear hdone
      rw [show (itFirst []).2 = false from rfl]
      go_wp2_with fail
      go_ret
      refine ⟨_, rfl, ?_, ?_, ?_⟩
      · rw [← HDN.out.1]
        exact Kd.R_mono HR.out (fun _ _ => trivial)
      · rw [← HDN.out.2, ← HOKB.out]
        exact HT.out
      · exact HK.out.mono (fun k _ hk => (HOB.out k hk).1)
    | cons x r =>
      rw [show (itFirst (x :: r)).2 = true from rfl]
      rw [show itFirst (x :: r) = (x, true) from rfl] at hbx
      have b0 := blk_cell hbx 0
      have b1 := blk_cell hbx 1
      have hxl := blk_lt hbx
      simp only [List.getElem?_toArray, List.getElem?_cons_succ, List.getElem?_cons_zero] at b0 b1
      have HBX' := Lib.hid hbx
      clear hbx
      by_cases hnow : x.2 ≤ now
      · have hwx := HT.out.wf x (by simp)
        rw [List.length_cons] at hol hgn
        go_wp2_with (at_builtin; refine Kd.R_append KIt (w0 := wr) w.heap.size rfl (.tmp 25) (.tmp 27) 240 245 (.agg #[.int .i64 0, .int .i64 0]) 16 rfl Tryz.underlying240 info_item rfl (by decide) (by omega) u5 out x [.int .i64 x.1, .int .i64 x.2] (fun k => k ≠ xb) (fun _ => False) rfl rfl (KIt_of wr w.heap.size _ x) (fun _ h => h.elim) (fun k hk e => by omega) HR.out (Below.refl _ _) HK.out.size (by omega) ?_; intro v1 w3 h1 h2 hgr hat; have HR3 := Lib.hid h1; have HGR := Lib.hid hgr; have hb3 := blk_grown HBX'.out hgr (fun e => HR.out.1 xb e.symm rfl); have c0 := blk_cell hb3 0; have c1 := blk_cell hb3 1; simp only [List.getElem?_toArray, List.getElem?_cons_succ, List.getElem?_cons_zero] at c0 c1; have HB3 := Lib.hid hb3; clear h1 h2 hgr hat hb3)
        have hT3 : TmAt w3 okb tb (x :: r) := HT.out.move (fun k hk hl => HGR.out.block k hl (fun e => by have := Kd.R_base HR.out k e.symm; have := (HOB.out k hk).2; omega))
        have hK3 : Keep okb w w3 := HK.out.trans ⟨HGR.out.os, HGR.out.tape, HGR.out.output, HGR.out.size, fun k hl hn => HGR.out.block k hl (fun e => hn (.inr (Kd.R_base HR.out k e.symm)))⟩
        refine Calls.mono (timerDrop_any w3 okb tb (x :: r) x.1 hT3 hwx (by rw [List.length_cons]; omega)) ?_
        rintro e w4 ⟨rfl, hT4, hK4⟩
        rw [tDrop_head hT3.trow] at hT4
        have hxo : ¬ okb xb := fun h => by have := (HOB.out xb h).2; omega
        have hb4 := (hK4.block xb (blk_lt HB3.out) hxo).trans HB3.out
        have c0 := blk_cell hb4 0
        have c1 := blk_cell hb4 1
        have hl4 := blk_lt hb4
        simp only [List.getElem?_toArray, List.getElem?_cons_succ, List.getElem?_cons_zero] at c0 c1
        have HR4 := Lib.hid (Kd.R_step (Kd.R_bound HR3.out) (w1 := w4) (fun k hk hl => hK4.block k hl (fun ho => by have := hk.2.1; have := (HOB.out k ho).2; omega)))
        have hs34 := hK4.size
        have HT4 := Lib.hid hT4
        have HK4 := Lib.hid (hK3.trans (hK4.mono (fun _ _ h => .inl h)))
        clear hT3 hK3 hT4 hK4 hb4
        go_wp2_with fail
        refine Calls.mono (timerNext_any _ okb tb r (HT4.out.below (below_alloc (Below.refl _ _) _))) ?_
        rintro e w5 ⟨rfl, hB5⟩
        have hb5 := blk_below (heap_alloc_new w4 (.cells #[.int .i64 x.1, .int .i64 x.2] 245)) hB5
        have d0 := blk_cell hb5 0
        have d1 := blk_cell hb5 1
        have g0 := blk_frozen hb5 0
        have g1 := blk_frozen hb5 1
        have hl5 := blk_lt hb5
        simp only [List.getElem?_toArray, List.getElem?_cons_succ, List.getElem?_cons_zero] at d0 d1
        have hB45 : Below w4.heap.size w4 w5 := (below_alloc (Below.refl _ w4) (.cells #[.int .i64 x.1, .int .i64 x.2] 245)).trans (hB5.mono (by simp))
        have HB5 := Lib.hid hB45
        have HBB := Lib.hid hb5
        have hw4 : w.heap.size ≤ w4.heap.size := HK4.out.size
        clear hB5 hb5 hB45 c0 c1
        go_wp2_with fail
        go_roundg r.length
        case measure => omega
        case rel =>
          have hne : ∀ k, k < w4.heap.size → k ≠ w4.heap.size := fun k hk => by omega
          refine ⟨out ++ [x], r, w4.heap.size, Nat.le_refl _, rfl, rfl, HD.out.step hnow, ?_, ?_, ?_, hw4, ?_⟩
          · refine HT4.out.move (fun k hk hl => ?_)
            rw [Below.heap_setCell _ _ _ k (hne k hl), Below.heap_setCell _ _ _ k (hne k hl)]
            exact HB5.out.block k hl
          · refine Kd.R_mono (Kd.R_step (Kd.R_bound HR4.out) (fun k hk hl => ?_)) (fun k hk => by have := hk.2.2.1; omega)
            rw [Below.heap_setCell _ _ _ k (hne k hl), Below.heap_setCell _ _ _ k (hne k hl)]
            exact HB5.out.block k hl
          · have := blk_set (blk_set HBB.out 0 (.int .i64 (itFirst r).1.1)) 1 (.int .i64 (itFirst r).1.2)
            simpa using this
          · refine HK4.out.trans ⟨HB5.out.os, HB5.out.tape, HB5.out.output, ?_, fun k hl hn => ?_⟩
            · simpa [World.setCell] using HB5.out.size
            · rw [Below.heap_setCell _ _ _ k (hne k hl), Below.heap_setCell _ _ _ k (hne k hl)]
              exact HB5.out.block k hl
      · have hnb : decide (x.2 ≤ now) = false := by simpa using hnow
        have hdone := HD.out.done (by rw [tDue_cons, if_neg hnow])
        have HDN := Lib.hid hdone
        clear hdone
        go_wp2_with fail
        go_ret
        refine ⟨_, rfl, ?_, ?_, ?_⟩
        · rw [← HDN.out.1]
          exact Kd.R_mono HR.out (fun _ _ => trivial)
        · rw [← HDN.out.2, ← HOKB.out]
          exact HT.out
        · exact HK.out.mono (fun k _ hk => (HOB.out k hk).1)
end Go.Proofs.YtipdleiginnjmaaGreatDoor
namespace Go.Proofs.YtipdleiginnjmaaGreatDoor
set_option maxRecDepth 100000
open Go.RowKit Go.Proofs.YtipdleiginnjmaaGreatDoorW.PrintWords
open Go.Sort (grow putRow putCells ahead mapBlock onCells Holds SWO PermIn SortedIn heap_grow_old HoldsK flatK putRowK size_flatK get_flatK)

def encIt (x : It) : List Value := [.int .i64 x.1, .int .i64 x.2]
theorem KIt_M (w : World) (base : Nat) (ok : Nat → Prop) (x : It) : KIt.M w base ok x (encIt x) := ⟨[_], [_], rfl, rfl, rfl⟩
theorem holds_it {e : Nat} {w : World} {base : Nat} {ok : Nat → Prop} {g n cap : Nat} {xs : List It} (h : KIt.R e w base ok (.slice (some ⟨g, 0, none⟩) n cap) xs) : HoldsK encIt 2 w g 0 xs.toArray := by
  have hn := (Kd.R_reads' h).1
  intro t ht
  rw [size_flatK] at ht
  have hs : xs.toArray.size = xs.length := by simp
  obtain ⟨c, hcl, hM, hcc, hcf⟩ := Kd.R_elem h (0, 0) ((t / 2 : Nat) : Int) (by omega) (by omega)
  have hc := KIt_cells hM
  subst hc
  have hsz : KIt.sz = 2 := rfl
  rw [hsz] at hcc hcf
  simp only [Int.toNat_natCast] at hcc hcf
  have ht2 : t / 2 * 2 + t % 2 = t := by omega
  have htl : t / 2 < xs.length := by omega
  rw [get_flatK encIt 2 _ t ht, Nat.zero_add]
  have he : xs.toArray[t / 2]! = xs.getD (t / 2) (0, 0) := by simp [List.getD, htl]
  have hf := hcf (t % 2)
  rw [ht2] at hf
  refine ⟨?_, hf⟩
  rw [he]
  rcases Nat.mod_two_eq_zero_or_one t with h0 | h0
  · have := hcc 0 _ rfl
    rw [h0] at ht2
    rw [ht2] at this
    rw [h0, this]
    rfl
  · have := hcc 1 _ rfl
    rw [h0] at ht2
    rw [ht2] at this
    rw [h0, this]
    rfl
theorem sorted_heap {w : World} {g m : Nat} {os : Array Obj} {cur : Array Value} {e : TypeId} {fr : Nat × Nat} (d : Array It) (hb : w.heap[g]? = some (.cells cur e fr)) :
    (sortWorldK encIt 2 w g 0 m d os).heap[g]? = some (.cells (putCells id 0 (flatK encIt 2 d) cur) e fr) := by
  have hg : g < w.heap.size := (Array.getElem?_eq_some_iff.1 hb).1
  unfold sortWorldK
  rw [heap_grow_old _ _ (by simpa [putRowK, putRow, mapBlock, ahead] using hg)]
  simp [putRowK, putRow, mapBlock, Array.getElem?_modify, hb, onCells]
theorem sorted_below {w : World} {g m B : Nat} {os : Array Obj} (d : Array It) (hg : B ≤ g) (hB : B ≤ w.heap.size) : Below B w (sortWorldK encIt 2 w g 0 m d os) := by
  refine ⟨rfl, rfl, rfl, by simp [sortWorldK, grow, putRowK, putRow, mapBlock], fun k hk => ?_⟩
  unfold sortWorldK
  rw [heap_grow_old _ _ (by simp [putRowK, putRow, mapBlock]; omega)]
  have : g ≠ k := by omega
  simp [putRowK, putRow, mapBlock, Array.getElem?_modify, this]
theorem flat_take (d : Array It) (cur : Array Value) (h : d.size * 2 ≤ cur.size) (j : Nat) (x : It) (hj : d.toList[j]? = some x) :
    (((putCells id 0 (flatK encIt 2 d) cur).toList.take (d.size * 2)).drop (j * 2)).take 2 = encIt x := by
  have hjl : j < d.size := by simpa using (List.getElem?_eq_some_iff.1 hj).1
  have hx : d[j]! = x := by
    rw [getElem!_pos d j hjl]
    have := (List.getElem?_eq_some_iff.1 hj).2
    simpa using this
  apply List.ext_getElem?
  intro i
  rw [List.getElem?_take]
  by_cases hi : i < 2
  · rw [if_pos hi, List.getElem?_drop, List.getElem?_take_of_lt (by omega), Array.getElem?_toList]
    have hlt : j * 2 + i < (flatK encIt 2 d).size := by rw [size_flatK]; omega
    have hlc : j * 2 + i < cur.size := by rw [size_flatK] at hlt; omega
    have e1 : (putCells id 0 (flatK encIt 2 d) cur)[j * 2 + i]? = some ((flatK encIt 2 d)[j * 2 + i]!) := by
      simp only [putCells, Array.getElem?_mapIdx, Nat.zero_le, Nat.zero_add, true_and, hlt, if_true, Nat.sub_zero, id]
      rw [Array.getElem?_eq_getElem hlc]
      rfl
    rw [e1, get_flatK encIt 2 d _ (by rw [size_flatK] at hlt; exact hlt), show (j * 2 + i) / 2 = j by omega, show (j * 2 + i) % 2 = i by omega, hx]
    match i, hi with
    | 0, _ => rfl
    | 1, _ => rfl
  · rw [if_neg hi, List.getElem?_eq_none (by simp [encIt]; omega)]
theorem R_sorted {e : Nat} {w : World} {base : Nat} {ok : Nat → Prop} {g n cap m : Nat} {os : Array Obj} {xs ys : List It} (h : KIt.R e w base ok (.slice (some ⟨g, 0, none⟩) n cap) xs) (hp : 0 < n) (hl : ys.length = xs.length) :
    KIt.R e (sortWorldK encIt 2 w g 0 m ys.toArray os) base ok (.slice (some ⟨g, 0, none⟩) n cap) ys := by
  obtain ⟨h0, inner, ho, hr⟩ := h
  have hsz : KIt.sz = 2 := rfl
  rw [hsz] at ho hr
  rcases ho.2 with ⟨hv, _⟩ | ⟨g', cap', cur, hv, hb, hh, h1, h2, h3, h4⟩
  · cases hv
  · injection hv with ha hx hc
    injection ha with ha
    injection ha with ha
    subst ha hc
    have hnn : n = xs.length := hx
    subst hnn
    have hlt : ys.toArray.size * 2 ≤ cur.size := by simp; omega
    refine ⟨h0, _, ⟨?_, .inr ⟨g, cap, _, by rw [hl], hb, sorted_heap _ hh, by omega, h2, by rw [hsz]; simpa [putCells] using h3, rfl⟩⟩, ?_, fun j x hj => ?_⟩
    · rw [hsz, List.length_take]
      simp [putCells]
      omega
    · rw [hsz, List.length_take]
      simp [putCells]
      omega
    · rw [hsz]
      have := flat_take ys.toArray cur hlt j x (by simpa using hj)
      rw [show ys.length = ys.toArray.size by simp, this]
      exact KIt_M _ _ _ _
theorem ltOf_ordT (x y : It) : ltOf ordI x y = decide (tLt x y) := by
  unfold ltOf
  exact decide_eq_decide.2 (ordI_lt x y)
theorem ord_swoT : SWO (ltOf ordI) where
  irrefl x := by rw [ltOf_ordT]; exact decide_eq_false (tLt_irrefl x)
  trans x y z h1 h2 := by
    rw [ltOf_ordT] at *
    exact decide_eq_true (tLt_trans (of_decide_eq_true h1) (of_decide_eq_true h2))
  ntrans x y z h1 h2 := by
    rw [ltOf_ordT] at *
    exact decide_eq_false (fun h => tLe_trans (of_decide_eq_false h2) (of_decide_eq_false h1) h)

theorem sort_it (n cap : Nat) (A : Option Addr) (l s : List It) (w : World) (b : Nat) (hR : KIt.R 245 w b (fun _ => True) (.slice A n cap) l) (hp : l.Perm s) (hs : s.Pairwise tLt) (hbw : b ≤ w.heap.size) (hl : n ≤ 1000000) :
    Calls Tryz.prog 223 #[.slice A n cap, .func (.func 224) #[] #[]] w fun e w' => e = .returned (.tuple #[]) ∧ KIt.R 245 w' b (fun _ => True) (.slice A n cap) s ∧ Below b w w' := by
  have hn : n = l.length := (Kd.R_reads' hR).1
  rcases Nat.eq_zero_or_pos n with h0 | h0
  · subst h0
    have hl0 : l = [] := List.eq_nil_of_length_eq_zero hn.symm
    subst hl0
    have hs0 : s = [] := List.nil_perm.1 hp
    subst hs0
    have hcon := AnyF.slices_SortFunc_none Tryz.sortIt A cap (.func (.func 224) #[] #[]) w
    refine Calls.mono hcon ?_
    rintro e w' ⟨rfl, rfl⟩
    exact ⟨rfl, hR, Below.refl _ _⟩
  · obtain ⟨g, cap', hv, hbg, hgl, cells, hg⟩ := Kd.R_form hR (by omega)
    injection hv with hA hx hc
    subst hA hc
    have eg : ∀ args w, (callFunc 224 args).run Tryz.prog w = .ok (.enter 224 args) w := enters_of Tryz.func224 (by kernel_rfl) rfl
    have hcmp : CmpLays Tryz.prog 224 #[] encIt 2 ordI g 0 l.toArray.size w := by
      intro m os dk _ x y
      refine Calls.mono (order_any x y _) ?_
      rintro e w' ⟨rfl, q, os', hw⟩
      exact ⟨rfl, q, os', hw⟩
    have hcon := AnyQ.slices_SortFunc Tryz.sortIt 2 Tryz.isAgg245 Tryz.sizeOf245 encIt (fun _ => rfl) (fun x v hv => by simp [encIt] at hv; rcases hv with rfl | rfl <;> rfl) ordI ord_swoT 224 #[] g 0 cap l.toArray w eg hcmp (holds_it hR) hgl (by simp; omega)
    rw [show l.toArray.size = n by simp; omega] at hcon
    refine Calls.mono hcon ?_
    rintro e w' ⟨rfl, d', m, os, ⟨hsz, _, hperm⟩, hsort, rfl⟩
    have hdl : d'.size = n := by rw [hsz]; simp; omega
    have hp2 : d'.toList.Perm l := by
      have h1 : d'.extract 0 n = d' := by rw [← hdl]; simp
      have h2 : l.toArray.extract 0 n = l.toArray := by rw [hn]; simp
      rw [h1, h2] at hperm
      exact hperm
    have hs2 : d'.toList = s := by
      refine (hp2.trans hp).eq_of_pairwise (le := fun a b => ¬ tLt b a) (fun a b _ _ h1 h2 => tLt_total h2 h1) ?_ (hs.imp (fun h => tLe_of_lt h))
      rw [List.pairwise_iff_getElem]
      intro i j hi hj hij
      have hi' : i < d'.size := by simpa using hi
      have hj' : j < d'.size := by simpa using hj
      have := hsort i j (Nat.zero_le _) hij (by omega)
      rw [getElem!_pos d' i hi', getElem!_pos d' j hj', ltOf_ordT] at this
      have := of_decide_eq_false this
      simpa using this
    have hd' : d' = s.toArray := by rw [← hs2]
    subst hd'
    exact ⟨rfl, R_sorted hR h0 (hp.length_eq.symm), sorted_below _ hbg hbw⟩

set_option maxHeartbeats 400000 in
theorem timerAll_any (w : World) (ok : Nat → Prop) (tb : Nat) (s : List It) (h : TmAt w ok tb s) (hs : s.length ≤ 1000000) :
    Calls Tryz.prog 199 #[.pointer (some ⟨tb, 0, none⟩)] w fun e w' => ∃ A c, e = .returned (.slice A s.length c) ∧ KIt.R 245 w' w.heap.size (fun _ => True) (.slice A s.length c) s ∧ Below w.heap.size w w' := by
  obtain ⟨v, mb, l, ps, hT, hO⟩ := h
  have hll : l.length = s.length := hO.perm.length_eq
  obtain ⟨A0, c0, rfl⟩ := Kd.R_slice hT.row
  obtain ⟨_, hc0, hC0⟩ := Kd.R_reads' hT.row
  obtain ⟨t0, _, htl⟩ := hT.tcells
  rw [hll] at t0 hc0 hC0
  have HC0 := Lib.hid hC0
  have HP := Lib.hid hO.perm
  have HS := Lib.hid hO.row
  have HLL := Lib.hid hll
  clear hT hO hC0
  go_enter Tryz.func199, Tryz.ntmps199
  go_wp2_with fail
  refine Calls.mono (clone_it A0 s.length c0 l w HLL.out HC0.out hc0 (by omega)) ?_
  rintro e w1 ⟨A1, c1, rfl, hR1, hB1⟩
  have HR1 := Lib.hid hR1
  have HB1 := Lib.hid hB1
  clear hR1 hB1
  go_wp2_with fail
  refine Calls.mono (sort_it s.length c1 A1 l s w1 w.heap.size HR1.out HP.out HS.out HB1.out.size hs) ?_
  rintro e w2 ⟨rfl, hR2, hB2⟩
  have HR2 := Lib.hid hR2
  have HB2 := Lib.hid (HB1.out.trans hB2)
  clear hR2 hB2
  go_wp2_with fail
  go_ret
  exact ⟨A1, c1, rfl, HR2.out, HB2.out⟩
end Go.Proofs.YtipdleiginnjmaaGreatDoor
namespace Go.Proofs.YtipdleiginnjmaaGreatDoor
open Go.RowKit Go.Proofs.YtipdleiginnjmaaGreatDoorW.PrintWords

def ATm (tb : Nat) (s : List It) : Asn where
  pred w S := TmAt w S tb s
  mono h hm := TmAt.mono h hm
  move h hm := TmAt.move h hm
abbrev AIt (v : Value) (s : List It) : Asn := ARow KIt 245 v s
section
variable {w0 w : World} {tb : Nat} {s : List It} {Ps : List Asn}
theorem Hp.tmRow (h : Hp w0 w (ATm tb s :: Ps)) : tRow s := TmAt.trow h.head
theorem Hp.tmWf (h : Hp w0 w (ATm tb s :: Ps)) : ∀ p ∈ s, (Lit.int .i64 p.1).wf = true := TmAt.wf h.head
theorem Hp.tmNew (h : Hp w0 w Ps) : Calls Tryz.prog 151 #[] w fun e w' => e = .returned (.pointer (some ⟨w.heap.size + 1, 0, none⟩)) ∧ Hp w0 w' (ATm (w.heap.size + 1) [] :: Ps) := by
  refine Calls.mono (timerNew_any w) ?_
  rintro e w' ⟨rfl, hL, hB⟩
  exact ⟨rfl, h.fresh hB hL⟩
theorem Hp.tmAt (h : Hp w0 w (ATm tb s :: Ps)) (id : Int) (hw : (Lit.int .i64 id).wf = true) :
    Calls Tryz.prog 83 #[.pointer (some ⟨tb, 0, none⟩), .int .i64 id] w fun e w' => e = .returned (.tuple #[.int .i64 (itAt s id).1, .bool (itAt s id).2]) ∧ w = w' := timerAt_any w _ tb s id h.head hw
theorem Hp.tmSet (h : Hp w0 w (ATm tb s :: Ps)) (id t : Int) (hw : (Lit.int .i64 id).wf = true) (hs : s.length < 1000000) :
    Calls Tryz.prog 161 #[.pointer (some ⟨tb, 0, none⟩), .int .i64 id, .int .i64 t] w fun e w' => e = .returned (.tuple #[]) ∧ Hp w0 w' (ATm tb (tSet s id t) :: Ps) := by
  obtain ⟨S1, h1, h2⟩ := h.use1
  refine Calls.mono (timerSet_any w S1 tb s id t h1 hw hs) ?_
  rintro e w' ⟨rfl, hL, hK⟩
  exact ⟨rfl, h2 w' _ hK hL⟩
theorem Hp.tmDrop (h : Hp w0 w (ATm tb s :: Ps)) (id : Int) (hw : (Lit.int .i64 id).wf = true) (hs : s.length ≤ 1000000) :
    Calls Tryz.prog 162 #[.pointer (some ⟨tb, 0, none⟩), .int .i64 id] w fun e w' => e = .returned (.bool (hasId s id)) ∧ Hp w0 w' (ATm tb (tDrop s id) :: Ps) := by
  obtain ⟨S1, h1, h2⟩ := h.use1
  refine Calls.mono (timerDrop_any w S1 tb s id h1 hw hs) ?_
  rintro e w' ⟨rfl, hL, hK⟩
  exact ⟨rfl, h2 w' _ hK (hL.mono (fun k hk _ => .inl hk))⟩
theorem Hp.tmCopy (h : Hp w0 w (ATm tb s :: Ps)) (hs : s.length ≤ 1000000) :
    Calls Tryz.prog 86 #[.pointer (some ⟨tb, 0, none⟩)] w fun e w' => ∃ cb, e = .returned (.pointer (some ⟨cb, 0, none⟩)) ∧ Hp w0 w' (ATm cb s :: ATm tb s :: Ps) := by
  refine Calls.mono (timerCopy_any w _ tb s h.head hs) ?_
  rintro e w' ⟨cb, rfl, hL, hB⟩
  exact ⟨cb, rfl, h.fresh hB hL⟩
theorem Hp.tmAll (h : Hp w0 w (ATm tb s :: Ps)) (hs : s.length ≤ 1000000) :
    Calls Tryz.prog 199 #[.pointer (some ⟨tb, 0, none⟩)] w fun e w' => ∃ A c, e = .returned (.slice A s.length c) ∧ Hp w0 w' (AIt (.slice A s.length c) s :: ATm tb s :: Ps) := by
  refine Calls.mono (timerAll_any w _ tb s h.head hs) ?_
  rintro e w' ⟨A, c, rfl, hR, hB⟩
  exact ⟨A, c, rfl, h.row hB hR⟩
theorem Hp.tmDue (h : Hp w0 w (ATm tb s :: Ps)) (now : Int) (hs : s.length ≤ 1000000) :
    Calls Tryz.prog 191 #[.pointer (some ⟨tb, 0, none⟩), .int .i64 now] w fun e w' => ∃ A c, e = .returned (.slice A (s.take (tDue s now)).length c) ∧ Hp w0 w' (AIt (.slice A (s.take (tDue s now)).length c) (s.take (tDue s now)) :: ATm tb (s.drop (tDue s now)) :: Ps) := by
  obtain ⟨S1, h1, hS, h2⟩ := h.use
  refine Calls.mono (timerDue_any w S1 tb s now h1 hs) ?_
  rintro e w' ⟨v, rfl, hR, hL, hK⟩
  obtain ⟨A, c, rfl⟩ := Kd.R_slice hR
  refine ⟨A, c, rfl, h2 w' [_, _] hK ?_⟩
  have hR' : (AIt (.slice A (s.take (tDue s now)).length c) (s.take (tDue s now))).pred w' (fun k => w.heap.size ≤ k) := Kd.R_lower (Kd.R_mono (Kd.R_bound hR) (fun k hk => hk.2.1)) (Nat.zero_le _)
  have hL' : Star [ATm tb (s.drop (tDue s now))] w' (fun k => S1 k ∧ k < w.heap.size) := Star.one hL
  exact (Star.cons hR' hL' (fun k h1 h2 => by have := h2.2; omega)).mono (fun k hk _ => by rcases hk with hk | hk; exact .inr hk; exact .inl hk.1)
end
end Go.Proofs.YtipdleiginnjmaaGreatDoor
