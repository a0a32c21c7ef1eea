/- Things in groups, in the order in which they came: the plain law of a lane. No program in it. -/
import Derived.Test.YtdcifghhamondaaMp
namespace Go.Proofs.Ytdcifghhamondaa

/-- A thing: its id, its group, its turn. -/
abbrev En := Int × (ByteArray × Int)
def lDrop (s : List En) (id : Int) : List En := s.filter (fun p => decide (p.1 ≠ id))
def grp (s : List En) (g : ByteArray) : List Int := (s.filter (fun p => decide (p.2.1 = g))).map (·.1)
def hasEn (s : List En) (id : Int) : Bool := s.any (fun p => decide (p.1 = id))
structure LnOk (s : List En) (turn : Int) : Prop where
  ids : (s.map (·.1)).Nodup
  row : s.Pairwise (fun a b => a.2.2 < b.2.2)
  top : ∀ p ∈ s, p.2.2 ≤ turn
theorem LnOk.nil : LnOk [] 0 := ⟨List.Pairwise.nil, List.Pairwise.nil, by simp⟩
theorem LnOk.add {s : List En} {turn : Int} (h : LnOk s turn) {id : Int} (g : ByteArray) (hn : hasEn s id = false) : LnOk (s ++ [(id, (g, turn + 1))]) (turn + 1) := by
  have hni : ∀ p ∈ s, p.1 ≠ id := by
    intro p hp e
    have := List.any_eq_false.1 hn p hp
    simp [e] at this
  refine ⟨?_, ?_, ?_⟩
  · rw [List.map_append, List.nodup_append]
    refine ⟨h.ids, by simp, fun a ha b hb e => ?_⟩
    obtain ⟨p, hp, rfl⟩ := List.mem_map.1 ha
    have : b = id := by simpa using hb
    exact hni p hp (e.trans this)
  · rw [List.pairwise_append]
    refine ⟨h.row, by simp, fun a ha b hb => ?_⟩
    have hb' : b = (id, (g, turn + 1)) := by simpa using hb
    subst hb'
    have := h.top a ha
    show a.2.2 < turn + 1
    omega
  · intro p hp
    rcases List.mem_append.1 hp with hp | hp
    · have := h.top p hp; omega
    · have hp' : p = (id, (g, turn + 1)) := by simpa using hp
      subst hp'
      exact Int.le_refl _
theorem LnOk.drop {s : List En} {turn : Int} (h : LnOk s turn) (id : Int) : LnOk (lDrop s id) turn :=
  ⟨(List.Sublist.map _ List.filter_sublist).nodup h.ids, h.row.filter _, fun p hp => h.top p (List.mem_filter.1 hp).1⟩
theorem LnOk.mono {s : List En} {turn turn' : Int} (h : LnOk s turn) (ht : turn ≤ turn') : LnOk s turn' := ⟨h.ids, h.row, fun p hp => by have := h.top p hp; omega⟩
theorem lDrop_len (s : List En) (id : Int) : (lDrop s id).length ≤ s.length := List.length_filter_le _ _
theorem lDrop_none {s : List En} {id : Int} (h : hasEn s id = false) : lDrop s id = s := by
  unfold lDrop
  rw [List.filter_eq_self]
  intro p hp
  have := List.any_eq_false.1 h p hp
  simpa using this

theorem grp_nil (g : ByteArray) : grp [] g = [] := rfl
theorem grp_cons (p : En) (s : List En) (g : ByteArray) : grp (p :: s) g = if p.2.1 = g then p.1 :: grp s g else grp s g := by
  unfold grp
  by_cases h : p.2.1 = g <;> simp [h]
theorem grp_snoc (s : List En) (p : En) (g : ByteArray) : grp (s ++ [p]) g = if p.2.1 = g then grp s g ++ [p.1] else grp s g := by
  unfold grp
  by_cases h : p.2.1 = g <;> simp [h]
theorem grp_drop (s : List En) (id : Int) (g : ByteArray) : grp (lDrop s id) g = (grp s g).filter (fun x => decide (x ≠ id)) := by
  unfold grp lDrop
  rw [List.filter_map, List.filter_filter, List.filter_filter]
  congr 1
  apply List.filter_congr
  intro p _
  simp [Bool.and_comm]
theorem grp_mem {s : List En} {g : ByteArray} {x : Int} : x ∈ grp s g ↔ ∃ t, (x, (g, t)) ∈ s := by
  unfold grp
  constructor
  · intro h
    obtain ⟨p, hp, rfl⟩ := List.mem_map.1 h
    obtain ⟨h1, h2⟩ := List.mem_filter.1 hp
    have h2 : p.2.1 = g := by simpa using h2
    exact ⟨p.2.2, by rw [← h2]; exact h1⟩
  · rintro ⟨t, ht⟩
    exact List.mem_map.2 ⟨_, List.mem_filter.2 ⟨ht, by simp⟩, rfl⟩
theorem grp_len (s : List En) (g : ByteArray) : (grp s g).length ≤ s.length := by
  unfold grp
  rw [List.length_map]
  exact List.length_filter_le _ _
theorem grp_nodup {s : List En} (h : (s.map (·.1)).Nodup) (g : ByteArray) : (grp s g).Nodup :=
  (List.Sublist.map _ List.filter_sublist).nodup h
/-- The entry of an id. -/
theorem en_get {s : List En} (h : (s.map (·.1)).Nodup) {id : Int} {v : ByteArray × Int} (hm : (id, v) ∈ s) : mget s id = some v := mget_mem h hm
theorem en_has (s : List En) (id : Int) : hasEn s id = (mget s id).isSome := by
  unfold hasEn mget
  rw [Option.isSome_map, List.any_eq, Bool.eq_iff_iff]
  simp [List.find?_isSome]
/-- The first of each group. -/
def lHeads (s : List En) : List En := s.filter (fun p => decide ((grp s p.2.1).head? = some p.1))
theorem lHeads_mem {s : List En} (h : (s.map (·.1)).Nodup) {p : En} : p ∈ lHeads s ↔ p ∈ s ∧ (grp s p.2.1).head? = some p.1 := by
  unfold lHeads
  rw [List.mem_filter, decide_eq_true_iff]
end Go.Proofs.Ytdcifghhamondaa
