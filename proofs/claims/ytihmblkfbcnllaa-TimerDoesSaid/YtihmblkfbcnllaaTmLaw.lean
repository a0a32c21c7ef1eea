/- A heap of things with times, and where each is: what moving one up, or down, does to it; what it holds, in order. Plain lists; no program in it. -/
import Derived.Test.YtihmblkfbcnllaaMp
namespace Go.Proofs.Ytihmblkfbcnllaa

/-- A thing: its number, its time. -/
abbrev It := Int × Int
def tLt (a b : It) : Prop := a.2 < b.2 ∨ (a.2 = b.2 ∧ a.1 < b.1)
instance (a b : It) : Decidable (tLt a b) := by unfold tLt; infer_instance
theorem tLt_irrefl (a : It) : ¬ tLt a a := by unfold tLt; omega
theorem tLt_trans {a b c : It} (h : tLt a b) (k : tLt b c) : tLt a c := by unfold tLt at *; omega
theorem tLe_trans {a b c : It} (h : ¬ tLt b a) (k : ¬ tLt c b) : ¬ tLt c a := by unfold tLt at *; omega
theorem tLe_of_lt {a b : It} (h : tLt a b) : ¬ tLt b a := by unfold tLt at *; omega
theorem tLt_total {a b : It} (h : ¬ tLt a b) (k : ¬ tLt b a) : a = b := by
  unfold tLt at *
  obtain ⟨a1, a2⟩ := a
  obtain ⟨b1, b2⟩ := b
  simp only at h k
  rw [Prod.mk.injEq]
  omega

def Heap2 (l : List It) : Prop := ∀ i a b, 0 < i → l[i]? = some a → l[(i - 1) / 2]? = some b → ¬ tLt a b
/-- A heap but for the place k. -/
structure Hole (l : List It) (k : Nat) : Prop where
  far : ∀ i a b, 0 < i → i ≠ k → (i - 1) / 2 ≠ k → l[i]? = some a → l[(i - 1) / 2]? = some b → ¬ tLt a b
  near : ∀ c a b, 0 < k → 0 < c → (c - 1) / 2 = k → l[c]? = some a → l[(k - 1) / 2]? = some b → ¬ tLt a b

theorem set_at {l : List It} {k : Nat} {y : It} (h : k < l.length) : (l.set k y)[k]? = some y := by simp [h]
theorem set_off {l : List It} {k i : Nat} {y : It} (h : i ≠ k) : (l.set k y)[i]? = l[i]? := by rw [List.getElem?_set_ne (Ne.symm h)]

theorem Hole.up {l : List It} {k : Nat} {y : It} (h : Hole l k) (hk0 : 0 < k) (hk : k < l.length) (hy : l[(k - 1) / 2]? = some y) : Hole (l.set k y) ((k - 1) / 2) := by
  have hp : (k - 1) / 2 ≠ k := by omega
  constructor
  · intro i a b hi h1 h2 ha hb
    have hik : i ≠ k := fun e => h2 (by rw [e])
    rw [set_off hik] at ha
    by_cases e : (i - 1) / 2 = k
    · rw [e, set_at hk] at hb
      obtain rfl := Option.some.inj hb
      exact h.near i a _ hk0 hi e ha hy
    · rw [set_off e] at hb
      exact h.far i a b hi hik e ha hb
  · intro c a b hp0 hc0 hc ha hb
    have hpp : ((k - 1) / 2 - 1) / 2 ≠ k := by omega
    rw [set_off hpp] at hb
    have h1 := h.far ((k - 1) / 2) y b hp0 hp hpp hy hb
    by_cases e : c = k
    · subst e
      rw [set_at hk] at ha
      obtain rfl := Option.some.inj ha
      exact h1
    · rw [set_off e] at ha
      have h2 := h.far c a y hc0 e (by rw [hc]; exact hp) ha (by rw [hc]; exact hy)
      exact tLe_trans h1 h2
theorem Hole.down {l : List It} {k c : Nat} {y : It} (h : Hole l k) (hk : k < l.length) (hc0 : 0 < c) (hc : (c - 1) / 2 = k) (hy : l[c]? = some y) (hs : ∀ d z, 0 < d → (d - 1) / 2 = k → l[d]? = some z → ¬ tLt z y) : Hole (l.set k y) c := by
  have hck : c ≠ k := by omega
  constructor
  · intro i a b hi h1 h2 ha hb
    by_cases e : (i - 1) / 2 = k
    · have hik : i ≠ k := by omega
      rw [set_off hik] at ha
      rw [e, set_at hk] at hb
      obtain rfl := Option.some.inj hb
      exact hs i a hi e ha
    · rw [set_off e] at hb
      by_cases e2 : i = k
      · subst e2
        rw [set_at hk] at ha
        obtain rfl := Option.some.inj ha
        exact h.near c _ b hi hc0 hc hy hb
      · rw [set_off e2] at ha
        exact h.far i a b hi e2 e ha hb
  · intro d a b _ hd0 hd ha hb
    have hdk : d ≠ k := by omega
    rw [set_off hdk] at ha
    rw [hc, set_at hk] at hb
    obtain rfl := Option.some.inj hb
    exact h.far d a _ hd0 hdk (by omega) ha (by rw [hd]; exact hy)
theorem Hole.fill {l : List It} {k : Nat} {x : It} (h : Hole l k) (hx : l[k]? = some x) (hu : 0 < k → ∀ b, l[(k - 1) / 2]? = some b → ¬ tLt x b) (hd : ∀ c a, 0 < c → (c - 1) / 2 = k → l[c]? = some a → ¬ tLt a x) : Heap2 l := by
  intro i a b hi ha hb
  by_cases e : i = k
  · subst e
    rw [hx] at ha
    obtain rfl := Option.some.inj ha
    exact hu hi b hb
  · by_cases e2 : (i - 1) / 2 = k
    · rw [e2, hx] at hb
      obtain rfl := Option.some.inj hb
      exact hd i a hi e2 ha
    · exact h.far i a b hi e e2 ha hb
/-- A hole is one whatever stands in it. -/
theorem Hole.set {l : List It} {k : Nat} (x : It) (h : Hole l k) : Hole (l.set k x) k := by
  constructor
  · intro i a b hi h1 h2 ha hb
    rw [set_off h1] at ha
    rw [set_off h2] at hb
    exact h.far i a b hi h1 h2 ha hb
  · intro c a b h0 hc0 hc ha hb
    rw [set_off (by omega)] at ha
    rw [set_off (by omega)] at hb
    exact h.near c a b h0 hc0 hc ha hb
theorem Heap2.hole {l : List It} (h : Heap2 l) (k : Nat) : Hole l k := by
  constructor
  · intro i a b hi _ _ ha hb
    exact h i a b hi ha hb
  · intro c a b hk hc0 hc ha hb
    have hlt : k < l.length := by
      have := (List.getElem?_eq_some_iff.1 ha).1
      omega
    have hy : l[k]? = some l[k] := by simp [hlt]
    exact tLe_trans (h k _ b hk hy hb) (h c a _ hc0 ha (by rw [hc]; exact hy))
theorem Heap2.snoc {l : List It} (h : Heap2 l) (x : It) : Hole (l ++ [x]) l.length := by
  constructor
  · intro i a b hi h1 h2 ha hb
    have hl := (List.getElem?_eq_some_iff.1 ha).1
    rw [List.length_append, List.length_singleton] at hl
    rw [List.getElem?_append_left (by omega)] at ha hb
    exact h i a b hi ha hb
  · intro c a b _ _ hc ha _
    have hl := (List.getElem?_eq_some_iff.1 ha).1
    rw [List.length_append, List.length_singleton] at hl
    omega
theorem Heap2.take {l : List It} (h : Heap2 l) (n : Nat) : Heap2 (l.take n) := by
  intro i a b hi ha hb
  have hl := (List.getElem?_eq_some_iff.1 ha).1
  rw [List.length_take] at hl
  rw [List.getElem?_take_of_lt (by omega)] at ha hb
  exact h i a b hi ha hb

/-! ### where each is -/
def Pos (l : List It) (ps : List (Int × Int)) : Prop := ∀ id j : Int, mget ps id = some j ↔ ∃ m : Nat, j = m ∧ (l[m]?).map (·.1) = some id
structure PosB (l : List It) (ps : List (Int × Int)) (k : Nat) (x : It) : Prop where
  off : ∀ id : Int, id ≠ x.1 → ∀ j : Int, mget ps id = some j ↔ ∃ m : Nat, j = m ∧ m ≠ k ∧ (l[m]?).map (·.1) = some id
  one : ∀ m y, m ≠ k → l[m]? = some y → y.1 ≠ x.1
  has : (mget ps x.1).isSome = true
theorem Pos.inj {l : List It} {ps : List (Int × Int)} (h : Pos l ps) {m n : Nat} {a b : It} (ha : l[m]? = some a) (hb : l[n]? = some b) (e : a.1 = b.1) : m = n := by
  have h1 := (h a.1 m).2 ⟨m, rfl, by rw [ha]; rfl⟩
  have h2 := (h a.1 n).2 ⟨n, rfl, by rw [hb, e]; rfl⟩
  rw [h1] at h2
  have := Option.some.inj h2
  omega
theorem Pos.at {l : List It} {ps : List (Int × Int)} (h : Pos l ps) {id j : Int} (hj : mget ps id = some j) : ∃ (m : Nat) (t : Int), j = m ∧ l[m]? = some (id, t) ∧ m < l.length := by
  obtain ⟨m, rfl, hm⟩ := (h id j).1 hj
  obtain ⟨⟨i, t⟩, hx, rfl⟩ := Option.map_eq_some_iff.1 hm
  exact ⟨m, t, rfl, hx, (List.getElem?_eq_some_iff.1 hx).1⟩
theorem Pos.none {l : List It} {ps : List (Int × Int)} (h : Pos l ps) {id : Int} (hj : mget ps id = none) {m : Nat} {y : It} (hm : l[m]? = some y) : y.1 ≠ id := by
  intro e
  have := (h id m).2 ⟨m, rfl, by rw [hm, ← e]; rfl⟩
  rw [hj] at this
  cases this
theorem Pos.out {l : List It} {ps : List (Int × Int)} (h : Pos l ps) {k : Nat} {x : It} (hx : l[k]? = some x) : PosB l ps k x := by
  refine ⟨fun id hid j => ?_, fun m y hm hy e => hm (h.inj hy hx e), ?_⟩
  · rw [h id j]
    constructor
    · rintro ⟨m, rfl, hm⟩
      refine ⟨m, rfl, fun e => hid ?_, hm⟩
      rw [e, hx] at hm
      exact (Option.some.inj hm).symm
    · rintro ⟨m, rfl, _, hm⟩
      exact ⟨m, rfl, hm⟩
  · rw [(h x.1 k).2 ⟨k, rfl, by rw [hx]; rfl⟩]
    rfl
theorem PosB.move {l : List It} {ps : List (Int × Int)} {k p : Nat} {x y : It} (h : PosB l ps k x) (hy : l[p]? = some y) (hp : p ≠ k) (hk : k < l.length) : PosB (l.set k y) (mput ps y.1 k) p x := by
  have hyx := h.one p y hp hy
  refine ⟨fun id hid j => ?_, fun m z hm hz => ?_, ?_⟩
  · by_cases e : id = y.1
    · subst e
      rw [mget_put_same]
      constructor
      · intro hj
        refine ⟨k, (Option.some.inj hj).symm, Ne.symm hp, by rw [set_at hk]; rfl⟩
      · rintro ⟨m, rfl, hm, hm2⟩
        by_cases e2 : m = k
        · rw [e2]
        · rw [set_off e2] at hm2
          have h1 := (h.off y.1 hid m).2 ⟨m, rfl, e2, hm2⟩
          have h2 := (h.off y.1 hid p).2 ⟨p, rfl, hp, by rw [hy]; rfl⟩
          rw [h1] at h2
          have := Option.some.inj h2
          omega
    · rw [mget_put_other ps _ e, h.off id hid j]
      constructor
      · rintro ⟨m, rfl, hm, hm2⟩
        refine ⟨m, rfl, fun e2 => ?_, by rw [set_off hm]; exact hm2⟩
        rw [e2, hy] at hm2
        exact e (Option.some.inj hm2).symm
      · rintro ⟨m, rfl, hm, hm2⟩
        by_cases e2 : m = k
        · rw [e2, set_at hk] at hm2
          exact absurd (Option.some.inj hm2).symm e
        · rw [set_off e2] at hm2
          exact ⟨m, rfl, e2, hm2⟩
  · by_cases e2 : m = k
    · subst e2
      rw [set_at hk] at hz
      obtain rfl := Option.some.inj hz
      exact hyx
    · rw [set_off e2] at hz
      exact h.one m z e2 hz
  · rw [mget_put_other ps _ (Ne.symm hyx)]
    exact h.has
theorem PosB.has_at {l : List It} {ps : List (Int × Int)} {k p : Nat} {x y : It} (h : PosB l ps k x) (hy : l[p]? = some y) (hp : p ≠ k) : (mget ps y.1).isSome = true := by
  rw [(h.off y.1 (h.one p y hp hy) p).2 ⟨p, rfl, hp, by rw [hy]; rfl⟩]
  rfl
theorem PosB.fill {l : List It} {ps : List (Int × Int)} {k : Nat} {x : It} (h : PosB l ps k x) (hk : k < l.length) : Pos (l.set k x) (mput ps x.1 k) := by
  intro id j
  by_cases e : id = x.1
  · subst e
    rw [mget_put_same]
    constructor
    · intro hj
      exact ⟨k, (Option.some.inj hj).symm, by rw [set_at hk]; rfl⟩
    · rintro ⟨m, rfl, hm⟩
      by_cases e2 : m = k
      · rw [e2]
      · rw [set_off e2] at hm
        obtain ⟨y, hy, hyx⟩ := Option.map_eq_some_iff.1 hm
        exact absurd hyx (h.one m y e2 hy)
  · rw [mget_put_other ps _ e, h.off id e j]
    constructor
    · rintro ⟨m, rfl, hm, hm2⟩
      exact ⟨m, rfl, by rw [set_off hm]; exact hm2⟩
    · rintro ⟨m, rfl, hm⟩
      by_cases e2 : m = k
      · rw [e2, set_at hk] at hm
        exact absurd (Option.some.inj hm).symm e
      · rw [set_off e2] at hm
        exact ⟨m, rfl, e2, hm⟩
theorem Pos.nodup {l : List It} {ps : List (Int × Int)} (h : Pos l ps) : (l.map (·.1)).Nodup := by
  unfold List.Nodup
  rw [List.pairwise_iff_getElem]
  intro i j hi hj hij e
  rw [List.length_map] at hi hj
  rw [List.getElem_map, List.getElem_map] at e
  have h1 : l[i]? = some l[i] := by simp
  have h2 : l[j]? = some l[j] := by simp
  have := h.inj h1 h2 e
  omega
theorem Pos.set {l : List It} {ps : List (Int × Int)} (h : Pos l ps) {k : Nat} {id t : Int} (hk : l[k]? = some (id, t)) (t' : Int) : Pos (l.set k (id, t')) (mput ps id k) := by
  have hb := h.out hk
  have hl := (List.getElem?_eq_some_iff.1 hk).1
  exact (PosB.fill (x := (id, t')) ⟨hb.off, hb.one, hb.has⟩ hl)
theorem Pos.snoc {l : List It} {ps : List (Int × Int)} (h : Pos l ps) {id : Int} (hn : mget ps id = .none) (t : Int) : Pos (l ++ [(id, t)]) (mput ps id l.length) := by
  intro id' j
  by_cases e : id' = id
  · subst e
    rw [mget_put_same]
    constructor
    · intro hj
      exact ⟨l.length, (Option.some.inj hj).symm, by simp⟩
    · rintro ⟨m, rfl, hm⟩
      by_cases hl : m < l.length
      · rw [List.getElem?_append_left hl] at hm
        obtain ⟨y, hy, hyx⟩ := Option.map_eq_some_iff.1 hm
        exact absurd hyx (h.none hn hy)
      · by_cases e2 : m = l.length
        · rw [e2]
        · rw [List.getElem?_eq_none (by simp; omega)] at hm
          cases hm
  · rw [mget_put_other ps _ e, h id' j]
    constructor
    · rintro ⟨m, rfl, hm⟩
      obtain ⟨y, hy, hyx⟩ := Option.map_eq_some_iff.1 hm
      have hl := (List.getElem?_eq_some_iff.1 hy).1
      exact ⟨m, rfl, by rw [List.getElem?_append_left hl]; exact hm⟩
    · rintro ⟨m, rfl, hm⟩
      by_cases hl : m < l.length
      · rw [List.getElem?_append_left hl] at hm
        exact ⟨m, rfl, hm⟩
      · by_cases e2 : m = l.length
        · subst e2
          simp at hm
          exact absurd hm.symm e
        · rw [List.getElem?_eq_none (by simp; omega)] at hm
          cases hm
theorem Pos.length {l : List It} {ps : List (Int × Int)} (h : Pos l ps) (hn : (ps.map (·.1)).Nodup) : ps.length = l.length := by
  have h1 : ∀ id, id ∈ ps.map (·.1) ↔ id ∈ l.map (·.1) := by
    intro id
    constructor
    · intro hi
      obtain ⟨p, hp, rfl⟩ := List.mem_map.1 hi
      obtain ⟨m, t, _, hm, _⟩ := h.at (mget_mem hn hp)
      exact List.mem_map.2 ⟨_, List.mem_of_getElem? hm, rfl⟩
    · intro hi
      obtain ⟨y, hy, rfl⟩ := List.mem_map.1 hi
      obtain ⟨m, hm⟩ := List.getElem?_of_mem hy
      have := (h y.1 m).2 ⟨m, rfl, by rw [hm]; rfl⟩
      exact List.mem_map.2 ⟨_, mget_some this, rfl⟩
  have h2 : (ps.map (·.1)).Perm (l.map (·.1)) := (List.perm_ext_iff_of_nodup hn h.nodup).2 h1
  simpa using h2.length_eq
theorem perm_swap {l : List It} {k p : Nat} {x y : It} (hk : k < l.length) (hy : l[p]? = some y) (hp : p ≠ k) : ((l.set k y).set p x).Perm (l.set k x) := by
  have hpl := (List.getElem?_eq_some_iff.1 hy).1
  have h := @List.set_set_perm It (l.set k x) k p (by simpa using hk) (by simpa using hpl)
  have e1 : (l.set k x)[p]'(by simpa using hpl) = y := by
    have : (l.set k x)[p]? = some y := by rw [set_off hp, hy]
    exact (List.getElem?_eq_some_iff.1 this).2
  have e2 : (l.set k x)[k]'(by simpa using hk) = x := by simp
  rw [e1, e2, List.set_set] at h
  exact h
theorem Pos.take {l : List It} {ps : List (Int × Int)} (h : Pos l ps) {n : Nat} (hl : l.length = n + 1) {y : It} (hy : l[n]? = some y) : Pos (l.take n) (mdel ps y.1) := by
  intro id j
  by_cases e : id = y.1
  · subst e
    rw [mget_del_same]
    constructor
    · intro hj; cases hj
    · rintro ⟨m, rfl, hm⟩
      obtain ⟨z, hz, hzy⟩ := Option.map_eq_some_iff.1 hm
      have hml := (List.getElem?_eq_some_iff.1 hz).1
      rw [List.length_take] at hml
      rw [List.getElem?_take_of_lt (by omega)] at hz
      have := h.inj hz hy hzy
      omega
  · rw [mget_del_other ps e, h id j]
    constructor
    · rintro ⟨m, rfl, hm⟩
      obtain ⟨z, hz, hzy⟩ := Option.map_eq_some_iff.1 hm
      have hml := (List.getElem?_eq_some_iff.1 hz).1
      have hmn : m ≠ n := fun e2 => by
        rw [e2, hy] at hz
        exact e (by rw [← hzy, Option.some.inj hz])
      exact ⟨m, rfl, by rw [List.getElem?_take_of_lt (by omega)]; exact hm⟩
    · rintro ⟨m, rfl, hm⟩
      obtain ⟨z, hz, hzy⟩ := Option.map_eq_some_iff.1 hm
      have hml := (List.getElem?_eq_some_iff.1 hz).1
      rw [List.length_take] at hml
      rw [List.getElem?_take_of_lt (by omega)] at hm
      exact ⟨m, rfl, hm⟩
/-- The last one takes the place of one that goes. -/
theorem Pos.swapOut {l : List It} {ps : List (Int × Int)} (h : Pos l ps) {n k : Nat} (hl : l.length = n + 1) {y x : It} (hy : l[n]? = some y) (hx : l[k]? = some x) (hk : k ≠ n) : Pos ((l.take n).set k y) (mput (mdel ps x.1) y.1 k) := by
  have hkl := (List.getElem?_eq_some_iff.1 hx).1
  have hyx : y.1 ≠ x.1 := fun e => hk (h.inj hx hy e.symm)
  have hkt : k < (l.take n).length := by rw [List.length_take]; omega
  intro id j
  by_cases e : id = y.1
  · subst e
    rw [mget_put_same]
    constructor
    · intro hj
      exact ⟨k, (Option.some.inj hj).symm, by rw [set_at hkt]; rfl⟩
    · rintro ⟨m, rfl, hm⟩
      by_cases e2 : m = k
      · rw [e2]
      · rw [set_off e2] at hm
        obtain ⟨z, hz, hzy⟩ := Option.map_eq_some_iff.1 hm
        have hml := (List.getElem?_eq_some_iff.1 hz).1
        rw [List.length_take] at hml
        rw [List.getElem?_take_of_lt (by omega)] at hz
        have := h.inj hz hy hzy
        omega
  · rw [mget_put_other _ _ e]
    by_cases e1 : id = x.1
    · subst e1
      rw [mget_del_same]
      constructor
      · intro hj; cases hj
      · rintro ⟨m, rfl, hm⟩
        by_cases e2 : m = k
        · rw [e2, set_at hkt] at hm
          exact absurd (Option.some.inj hm) hyx
        · rw [set_off e2] at hm
          obtain ⟨z, hz, hzy⟩ := Option.map_eq_some_iff.1 hm
          have hml := (List.getElem?_eq_some_iff.1 hz).1
          rw [List.length_take] at hml
          rw [List.getElem?_take_of_lt (by omega)] at hz
          exact absurd (h.inj hz hx hzy) e2
    · rw [mget_del_other ps e1, h id j]
      constructor
      · rintro ⟨m, rfl, hm⟩
        obtain ⟨z, hz, hzy⟩ := Option.map_eq_some_iff.1 hm
        have hml := (List.getElem?_eq_some_iff.1 hz).1
        have hmn : m ≠ n := fun e2 => by
          rw [e2, hy] at hz
          exact e (by rw [← hzy, Option.some.inj hz])
        have hmk : m ≠ k := fun e2 => by
          rw [e2, hx] at hz
          exact e1 (by rw [← hzy, Option.some.inj hz])
        exact ⟨m, rfl, by rw [set_off hmk, List.getElem?_take_of_lt (by omega)]; exact hm⟩
      · rintro ⟨m, rfl, hm⟩
        by_cases e2 : m = k
        · rw [e2, set_at hkt] at hm
          exact absurd (Option.some.inj hm).symm e
        · rw [set_off e2] at hm
          obtain ⟨z, hz, hzy⟩ := Option.map_eq_some_iff.1 hm
          have hml := (List.getElem?_eq_some_iff.1 hz).1
          rw [List.length_take] at hml
          rw [List.getElem?_take_of_lt (by omega)] at hm
          exact ⟨m, rfl, hm⟩

/-! ### what it holds, in order -/
def tDrop (s : List It) (id : Int) : List It := s.filter (fun p => decide (p.1 ≠ id))
def tIns (s : List It) (x : It) : List It := s.takeWhile (fun p => !decide (tLt x p)) ++ x :: s.dropWhile (fun p => !decide (tLt x p))
def tSet (s : List It) (id t : Int) : List It := tIns (tDrop s id) (id, t)
def tRow (s : List It) : Prop := s.Pairwise tLt ∧ (s.map (·.1)).Nodup
theorem tIns_nil (x : It) : tIns [] x = [x] := rfl
theorem tIns_cons (p : It) (s : List It) (x : It) : tIns (p :: s) x = if tLt x p then x :: p :: s else p :: tIns s x := by
  unfold tIns
  by_cases h : tLt x p <;> simp [h]
theorem tIns_perm (s : List It) (x : It) : (tIns s x).Perm (x :: s) := by
  unfold tIns
  refine List.perm_middle.trans (List.Perm.cons _ ?_)
  rw [List.takeWhile_append_dropWhile]
theorem tIns_sorted {s : List It} (h : s.Pairwise tLt) {x : It} (hx : ∀ p ∈ s, p ≠ x) : (tIns s x).Pairwise tLt := by
  induction s with
  | nil => simp [tIns_nil]
  | cons p s ih =>
    rw [List.pairwise_cons] at h
    rw [tIns_cons]
    by_cases hp : tLt x p
    · rw [if_pos hp]
      refine List.pairwise_cons.2 ⟨fun q hq => ?_, List.pairwise_cons.2 h⟩
      rcases List.mem_cons.1 hq with rfl | hq
      · exact hp
      · exact tLt_trans hp (h.1 q hq)
    · rw [if_neg hp]
      refine List.pairwise_cons.2 ⟨fun q hq => ?_, ih h.2 (fun q hq => hx q (List.mem_cons_of_mem _ hq))⟩
      rcases List.mem_cons.1 ((tIns_perm s x).mem_iff.1 hq) with rfl | hq
      · by_cases h2 : tLt p q
        · exact h2
        · exact absurd (tLt_total h2 hp) (hx p (by simp))
      · exact h.1 q hq
theorem tDrop_row {s : List It} (h : tRow s) (id : Int) : tRow (tDrop s id) := ⟨h.1.filter _, (List.Sublist.map _ List.filter_sublist).nodup h.2⟩
theorem tDrop_not {s : List It} {id : Int} {p : It} (h : p ∈ tDrop s id) : p.1 ≠ id := by simpa using (List.mem_filter.1 h).2
theorem tSet_row {s : List It} (h : tRow s) (id t : Int) : tRow (tSet s id t) := by
  have hd := tDrop_row h id
  refine ⟨tIns_sorted hd.1 (fun p hp e => tDrop_not hp (by rw [e])), ?_⟩
  have := ((tIns_perm (tDrop s id) (id, t)).map (·.1)).nodup_iff.2 (by
    rw [List.map_cons, List.nodup_cons]
    refine ⟨fun hm => ?_, hd.2⟩
    obtain ⟨p, hp, e⟩ := List.mem_map.1 hm
    exact tDrop_not hp e)
  exact this
theorem row_unique {s s' : List It} (h : s.Pairwise tLt) (h' : s'.Pairwise tLt) (hp : s.Perm s') : s = s' :=
  hp.eq_of_pairwise (le := tLt) (fun a _ _ _ h1 h2 => absurd (tLt_trans h1 h2) (tLt_irrefl a)) h h'
theorem drop_of_pos {l : List It} (hn : (l.map (·.1)).Nodup) {k : Nat} {x : It} (hx : l[k]? = some x) : (tDrop l x.1) = l.eraseIdx k := by
  induction l generalizing k with
  | nil => simp at hx
  | cons p l ih =>
    rw [List.map_cons, List.nodup_cons] at hn
    cases k with
    | zero =>
      have hx : p = x := by simpa using hx
      subst hx
      rw [List.eraseIdx_zero, List.tail_cons, tDrop, List.filter_cons]
      simp only [ne_eq, not_true, decide_false, Bool.false_eq_true, if_false]
      refine List.filter_eq_self.2 (fun q hq => ?_)
      simp only [decide_eq_true_eq]
      exact fun e => hn.1 (by rw [← e]; exact List.mem_map_of_mem hq)
    | succ k =>
      have hx : l[k]? = some x := by simpa using hx
      have hne : p.1 ≠ x.1 := fun e => hn.1 (by rw [e]; exact List.mem_map_of_mem (List.mem_of_getElem? hx))
      rw [List.eraseIdx_cons_succ, ← ih hn.2 hx, tDrop, List.filter_cons]
      simp only [ne_eq, hne, not_false_iff, decide_true, if_true]
      rfl
theorem drop_none {l : List It} {id : Int} (h : ∀ p ∈ l, p.1 ≠ id) : tDrop l id = l := List.filter_eq_self.2 (fun p hp => by simpa using h p hp)
theorem eraseIdx_set_perm {l : List It} {n k : Nat} (hl : l.length = n + 1) {y : It} (hy : l[n]? = some y) (hk : k < n) : ((l.take n).set k y).Perm (l.eraseIdx k) := by
  have e : l = l.take n ++ [y] := by
    conv => lhs; rw [← List.take_append_drop n l]
    congr 1
    rw [List.drop_eq_getElem_cons (by omega), List.drop_eq_nil_of_le (by omega)]
    rw [(List.getElem?_eq_some_iff.1 hy).2]
  have hlt : (l.take n).length = n := by rw [List.length_take]; omega
  generalize l.take n = q at e hlt ⊢
  subst e
  rw [List.eraseIdx_append_of_lt_length (by omega)]
  rw [List.set_eq_take_append_cons_drop, if_pos (by omega), List.eraseIdx_eq_take_drop_succ, List.append_assoc]
  exact List.Perm.append_left _ (List.perm_append_comm (l₁ := [y]) (l₂ := q.drop (k + 1)))
theorem set_perm_of {l : List It} {k : Nat} {x y : It} (hx : l[k]? = some x) : (l.set k y).Perm (y :: l.eraseIdx k) := by
  have hk := (List.getElem?_eq_some_iff.1 hx).1
  rw [List.set_eq_take_append_cons_drop, if_pos hk, List.eraseIdx_eq_take_drop_succ]
  exact List.perm_middle
theorem head_min {l s : List It} (h : Heap2 l) (hp : l.Perm s) (hs : s.Pairwise tLt) : l[0]? = s[0]? := by
  have hmin : ∀ (i : Nat) (a b : It), l[i]? = some a → l[0]? = some b → ¬ tLt a b := by
    intro i
    induction i using Nat.strongRecOn with
    | _ i ih =>
      intro a b ha hb
      by_cases h0 : i = 0
      · subst h0
        rw [ha] at hb
        obtain rfl := Option.some.inj hb
        exact tLt_irrefl _
      · have hl := (List.getElem?_eq_some_iff.1 ha).1
        have hc : l[(i - 1) / 2]? = some (l[(i - 1) / 2]'(by omega)) := List.getElem?_eq_getElem (by omega)
        exact tLe_trans (ih ((i - 1) / 2) (by omega) _ b hc hb) (h i a _ (by omega) ha hc)
  cases s with
  | nil => rw [List.perm_nil.1 hp]
  | cons x s =>
    have hx : x ∈ l := hp.mem_iff.2 (by simp)
    obtain ⟨i, hi⟩ := List.getElem?_of_mem hx
    have hl := (List.getElem?_eq_some_iff.1 hi).1
    have hb : l[0]? = some (l[0]'(by omega)) := List.getElem?_eq_getElem (by omega)
    have h1 := hmin i x _ hi hb
    rw [List.pairwise_cons] at hs
    rcases List.mem_cons.1 (hp.mem_iff.1 (List.mem_of_getElem? hb)) with e | hm
    · rw [hb, e]
      rfl
    · exact absurd (hs.1 _ hm) h1
end Go.Proofs.Ytihmblkfbcnllaa
