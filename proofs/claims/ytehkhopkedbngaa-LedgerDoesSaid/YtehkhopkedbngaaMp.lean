/- Maps in memory, told as a list of entries (no key twice; the order is nobody's): look-up, store, delete, len, range. No program in it. -/
import Derived.Test.YtehkhopkedbngaaBase
import Derived.Maps.OwnSet
import Derived.Maps.RangeWalk
import Derived.Maps.Ext
import Derived.Carry
namespace Go.Proofs.Ytehkhopkedbngaa
open Go.RowKit Go.Maps Go.Proofs.YtehkhopkedbngaaW.PrintWords

/-- An element of whatever type reads as itself. -/
def anyV (v : Value) : Option (DataW Value × List MemPlace) := some (.held v, [])

/-- A key's type: how a key stands as a value, and as what it reads. -/
structure KeyKd (P : Program) (k : TypeId) (α : Type) where make ::
  val : α → Value
  lit : α → Lit
  ok : α → Prop
  law : Keyed P k
  of : ∀ {a : α}, ok a → keyOf P k (val a) = some (lit a)
  inv : ∀ {v : Value} {kl : Lit}, keyOf P k v = some kl → ∃ a, ok a ∧ v = val a ∧ kl = lit a
  inj : ∀ {a b : α}, lit a = lit b → a = b
  isk : ∀ a : α, WideAt.IsKeyLit (lit a)

def intKey {P : Program} {k : TypeId} (hk : P.underlying k = some (.int .i64)) : KeyKd P k Int where
  val := .int .i64
  lit := .int .i64
  ok := fun a => (Lit.int .i64 a).wf = true
  law := int_keyed hk
  of := fun h => keyOf_int_mk hk h
  inv := fun h => by obtain ⟨x, rfl, rfl, hw⟩ := Maps.keyOf_int_inv hk h; exact ⟨x, hw, rfl, rfl⟩
  inj := fun h => by injection h
  isk := fun _ => trivial
theorem keyOf_string_inv {P : Program} {k : TypeId} (hk : P.underlying k = some .string) {key : Value} {kl : Lit} (h : keyOf P k key = some kl) : ∃ s : ByteArray, key = .string s ∧ kl = .string s.data.toList ∧ s.size ≤ maxLen := by
  cases key <;> simp [keyOf, hk, mapKey] at h
  obtain ⟨hw, rfl⟩ := h
  exact ⟨_, rfl, rfl, hw⟩
def strKey {P : Program} {k : TypeId} (hk : P.underlying k = some .string) : KeyKd P k ByteArray where
  val := .string
  lit := fun s => .string s.data.toList
  ok := fun s => s.size ≤ maxLen
  law := string_keyed hk
  of := fun h => by simp [keyOf, hk, mapKey, h]
  inv := fun h => by obtain ⟨s, rfl, rfl, hs⟩ := keyOf_string_inv hk h; exact ⟨s, hs, rfl, rfl⟩
  inj := fun {a b} h => by
    injection h with h
    have : a.data = b.data := Array.toList_inj.1 h
    cases a; cases b; simp_all
  isk := fun _ => trivial

section
variable {α β : Type} [DecidableEq α]
def mget (ps : List (α × β)) (a : α) : Option β := (ps.find? (fun p => decide (p.1 = a))).map (·.2)
def mdel (ps : List (α × β)) (a : α) : List (α × β) := ps.filter (fun p => decide (p.1 ≠ a))
def mput (ps : List (α × β)) (a : α) (x : β) : List (α × β) := (a, x) :: mdel ps a

theorem mget_nil (a : α) : mget ([] : List (α × β)) a = none := rfl
theorem mget_cons (p : α × β) (ps : List (α × β)) (a : α) : mget (p :: ps) a = if p.1 = a then some p.2 else mget ps a := by
  unfold mget
  by_cases h : p.1 = a <;> simp [h]
theorem mget_del_same (ps : List (α × β)) (a : α) : mget (mdel ps a) a = none := by
  unfold mget mdel
  rw [List.find?_eq_none.2 (fun p hp => by simpa using (List.mem_filter.1 hp).2)]
  rfl
theorem mget_del_other (ps : List (α × β)) {a b : α} (h : b ≠ a) : mget (mdel ps a) b = mget ps b := by
  unfold mget mdel
  rw [Maps.find_filter_keep (fun p hp => by
    simp only [decide_eq_true_eq] at hp ⊢
    exact fun e => h (hp.symm.trans e))]
theorem mget_put_same (ps : List (α × β)) (a : α) (x : β) : mget (mput ps a x) a = some x := by
  unfold mput
  rw [mget_cons, if_pos rfl]
theorem mget_put_other (ps : List (α × β)) {a b : α} (x : β) (h : b ≠ a) : mget (mput ps a x) b = mget ps b := by
  unfold mput
  rw [mget_cons, if_neg (fun e => h e.symm), mget_del_other ps h]
theorem mget_some {ps : List (α × β)} {a : α} {x : β} (h : mget ps a = some x) : (a, x) ∈ ps := by
  unfold mget at h
  obtain ⟨p, hp, rfl⟩ := Option.map_eq_some_iff.1 h
  have h1 := List.mem_of_find?_eq_some hp
  have h2 : p.1 = a := by simpa using List.find?_some hp
  rw [← h2]
  exact h1
theorem mget_none {ps : List (α × β)} {a : α} : mget ps a = none ↔ ∀ p ∈ ps, p.1 ≠ a := by
  unfold mget
  rw [Option.map_eq_none_iff, List.find?_eq_none]
  simp
theorem mget_mem {ps : List (α × β)} (hn : (ps.map (·.1)).Nodup) {p : α × β} (hp : p ∈ ps) : mget ps p.1 = some p.2 := by
  induction ps with
  | nil => simp at hp
  | cons q qs ih =>
    rw [mget_cons]
    rw [List.map_cons, List.nodup_cons] at hn
    rcases List.mem_cons.1 hp with rfl | hp
    · rw [if_pos rfl]
    · rw [if_neg (fun e => hn.1 (by rw [e]; exact List.mem_map_of_mem hp)), ih hn.2 hp]
theorem mget_iff {ps : List (α × β)} (hn : (ps.map (·.1)).Nodup) {a : α} {x : β} : mget ps a = some x ↔ (a, x) ∈ ps := ⟨mget_some, fun h => mget_mem hn h⟩
theorem mget_perm {ps qs : List (α × β)} (hn : (ps.map (·.1)).Nodup) (hp : ps.Perm qs) (a : α) : mget qs a = mget ps a := by
  have hq : (qs.map (·.1)).Nodup := (hp.map _).nodup_iff.1 hn
  cases h : mget ps a with
  | some x => exact (mget_iff hq).2 (hp.mem_iff.1 ((mget_iff hn).1 h))
  | none => exact mget_none.2 (fun p hm => mget_none.1 h p (hp.mem_iff.2 hm))
theorem mdel_keys {ps : List (α × β)} (hn : (ps.map (·.1)).Nodup) (a : α) : ((mdel ps a).map (·.1)).Nodup := (List.Sublist.map _ List.filter_sublist).nodup hn
theorem mput_keys {ps : List (α × β)} (hn : (ps.map (·.1)).Nodup) (a : α) (x : β) : ((mput ps a x).map (·.1)).Nodup := by
  unfold mput
  rw [List.map_cons, List.nodup_cons]
  refine ⟨fun h => ?_, mdel_keys hn a⟩
  obtain ⟨p, hp, e⟩ := List.mem_map.1 h
  have := (List.mem_filter.1 hp).2
  simp at this
  exact this e
theorem mdel_length {ps : List (α × β)} (hn : (ps.map (·.1)).Nodup) (a : α) : (mdel ps a).length + (if (mget ps a).isSome then 1 else 0) = ps.length := by
  induction ps with
  | nil => rfl
  | cons p ps ih =>
    rw [List.map_cons, List.nodup_cons] at hn
    have ih := ih hn.2
    rw [mget_cons]
    unfold mdel at ih ⊢
    by_cases h : p.1 = a
    · have h0 : mget ps a = none := mget_none.2 (fun q hq e => hn.1 (by rw [h, ← e]; exact List.mem_map_of_mem hq))
      rw [h0] at ih
      simp only [List.filter_cons, h, if_pos, ne_eq, not_true, decide_false, Bool.false_eq_true, if_false, Option.isSome_some, List.length_cons] at ih ⊢
      simpa using ih
    · simp only [List.filter_cons, h, if_false, ne_eq, not_false_iff, decide_true, if_true, List.length_cons] at ih ⊢
      omega
theorem mput_length {ps : List (α × β)} (hn : (ps.map (·.1)).Nodup) (a : α) (x : β) : (mput ps a x).length = if (mget ps a).isSome then ps.length else ps.length + 1 := by
  have := mdel_length hn a
  unfold mput
  rw [List.length_cons]
  split at this <;> simp_all <;> omega
theorem mdel_none {ps : List (α × β)} {a : α} (h : mget ps a = none) : mdel ps a = ps := by
  unfold mdel
  exact List.filter_eq_self.2 (fun p hp => by simpa using mget_none.1 h p hp)
end

section
variable {α β : Type} [DecidableEq α] {P : Program} {k : TypeId}

/-- Block b is a map that holds the entries ps. -/
def MapAt (K : KeyKd P k α) (enc : β → Value) (w : World) (b : Nat) (ps : List (α × β)) : Prop :=
  ∃ D : DataW Value, w.ownsMap P k anyV b ps.length D ∧ (ps.map (·.1)).Nodup ∧ (∀ p ∈ ps, K.ok p.1) ∧ Maps.size D = ps.length ∧
    ∀ a, Maps.has D (K.lit a) = (mget ps a).isSome ∧ ∀ zd, D.atKey (K.lit a) zd = ((mget ps a).map (fun x => DataW.held (enc x))).getD zd

variable {K : KeyKd P k α} {enc : β → Value} {w w' : World} {b : Nat} {ps : List (α × β)}

theorem MapAt.nodup (h : MapAt K enc w b ps) : (ps.map (·.1)).Nodup := let ⟨_, _, h, _⟩ := h; h
theorem MapAt.oks (h : MapAt K enc w b ps) : ∀ p ∈ ps, K.ok p.1 := let ⟨_, _, _, h, _⟩ := h; h
theorem MapAt.lt (h : MapAt K enc w b ps) : b < w.heap.size := let ⟨_, h, _⟩ := h; h.lt
theorem MapAt.move (h : MapAt K enc w b ps) (hb : w'.heap[b]? = w.heap[b]?) : MapAt K enc w' b ps := by
  obtain ⟨D, ⟨es, clock, h1, h2⟩, h3⟩ := h
  exact ⟨D, ⟨es, clock, hb.trans h1, h2⟩, h3⟩
theorem MapAt.below (h : MapAt K enc w b ps) (hb : Below w.heap.size w w') : MapAt K enc w' b ps := h.move (hb.block b h.lt)
theorem MapAt.perm {qs : List (α × β)} (h : MapAt K enc w b ps) (hp : ps.Perm qs) : MapAt K enc w b qs := by
  obtain ⟨D, h1, h2, h3, h4, h5⟩ := h
  refine ⟨D, by rw [← hp.length_eq]; exact h1, (hp.map _).nodup_iff.1 h2, fun p hm => h3 p (hp.mem_iff.2 hm), by rw [← hp.length_eq]; exact h4, fun a => ?_⟩
  rw [mget_perm h2 hp]
  exact h5 a
theorem MapAt.not_cells (h : MapAt K enc w b ps) {cs : Array Value} {t : TypeId} {q : Nat × Nat} : w.heap[b]? ≠ some (.cells cs t q) := by
  obtain ⟨D, ⟨es, clock, h1, _⟩, _⟩ := h
  rw [h1]
  intro e
  injection e with e
  cases e
theorem MapAt.ne_cells (h : MapAt K enc w b ps) {g : Nat} {cs : Array Value} {t : TypeId} {q : Nat × Nat} (hg : w.heap[g]? = some (.cells cs t q)) : b ≠ g := fun e => h.not_cells (e ▸ hg)
theorem MapAt.made (K : KeyKd P k α) (enc : β → Value) (w : World) : MapAt K enc (w.alloc (.map #[] 0)) w.heap.size [] :=
  ⟨.map [], World.ownsMap_made w P k anyV, by simp, by simp, rfl, fun a => ⟨rfl, fun zd => rfl⟩⟩

theorem MapAt.clone (h : MapAt K enc w b ps) : ∃ es clock, w.heap[b]? = some (.map es clock) ∧ ∀ (W : World) (c : Nat), W.heap[c]? = some (.map es clock) → MapAt K enc W c ps := by
  obtain ⟨D, ⟨es, clock, h1, h2⟩, h3⟩ := h
  exact ⟨es, clock, h1, fun W c hc => ⟨D, ⟨es, clock, hc, h2⟩, h3⟩⟩
theorem MapAt.look (h : MapAt K enc w b ps) {t e : TypeId} (ht : P.underlying t = some (.map k e)) {z : Value} (hz : (zeroValue e).run P w = .ok z w) {a : α} (ha : K.ok a) :
    (Instr.lookup t (.map (some b)) (K.val a) true).run P w = .ok (.tuple #[((mget ps a).map enc).getD z, .bool (mget ps a).isSome]) w := by
  obtain ⟨D, h1, h2, h3, h4, h5⟩ := h
  obtain ⟨v, q, hrun, hv⟩ := h1.look_ok K.law ht hz (zd := .held z) (zp := []) rfl (K.of ha)
  rw [hrun, (h5 a).1]
  have := (h5 a).2 (.held z)
  unfold anyV at hv
  rw [this] at hv
  injection hv with hv
  injection hv with hv _
  have : v = ((mget ps a).map enc).getD z := by
    cases hm : mget ps a with
    | none => rw [hm] at hv; simpa using hv
    | some x => rw [hm] at hv; simpa using hv
  rw [this]
theorem MapAt.look1 (h : MapAt K enc w b ps) {t e : TypeId} (ht : P.underlying t = some (.map k e)) {z : Value} (hz : (zeroValue e).run P w = .ok z w) {a : α} (ha : K.ok a) :
    (Instr.lookup t (.map (some b)) (K.val a) false).run P w = .ok (((mget ps a).map enc).getD z) w := by
  obtain ⟨D, h1, h2, h3, h4, h5⟩ := h
  obtain ⟨v, q, hrun, hv⟩ := h1.lookup K.law ht hz (zd := .held z) (zp := []) rfl (K.of ha)
  rw [hrun]
  have := (h5 a).2 (.held z)
  unfold anyV at hv
  rw [this] at hv
  injection hv with hv
  injection hv with hv _
  have : v = ((mget ps a).map enc).getD z := by
    cases hm : mget ps a with
    | none => rw [hm] at hv; simpa using hv
    | some x => rw [hm] at hv; simpa using hv
  rw [this]
theorem MapAt.len (h : MapAt K enc w b ps) {t e : TypeId} (ht : P.underlying t = some (.map k e)) (ty : TypeId) : (Builtin.len_ #[t] ty #[.map (some b)]).run P w = .ok (.int .i64 ps.length) w := by
  obtain ⟨D, h1, h2, h3, h4, h5⟩ := h
  rw [h1.len ht ty, h4]

/-- w' is w but for block b. -/
def ButB (w w' : World) (b : Nat) : Prop := w'.os = w.os ∧ w'.tape = w.tape ∧ w'.output = w.output ∧ w'.heap.size = w.heap.size ∧ ∀ i, i ≠ b → w'.heap[i]? = w.heap[i]?
theorem ButB.of_turned (h : w.mapTurned w' b) : ButB w w' b := by
  obtain ⟨es, clock, es', clock', hb, rfl⟩ := h
  exact ⟨rfl, rfl, rfl, by simp [ChangeMaps.setBlock], fun i hi => ChangeMaps.heap_setBlock_other hb _ (fun e => hi e)⟩
theorem ButB.keep {S : Nat → Prop} (h : ButB w w' b) (hb : S b) : Keep S w w' := ⟨h.1, h.2.1, h.2.2.1, by rw [h.2.2.2.1]; exact Nat.le_refl _, fun k _ hn => h.2.2.2.2 k (fun e => hn (e ▸ hb))⟩
theorem ButB.below {B : Nat} {w0 : World} (h : ButB w w' b) (h0 : Below B w0 w) (hb : B ≤ b) : Below B w0 w' := ⟨h.1.trans h0.os, h.2.1.trans h0.tape, h.2.2.1.trans h0.output, by rw [h.2.2.2.1]; exact h0.size, fun k hk => (h.2.2.2.2 k (by omega)).trans (h0.block k hk)⟩
theorem ButB.cell (h : ButB w w' b) {a : Addr} {v : Value} (hc : w.cell? a = some v) (hne : a.block ≠ b) : w'.cell? a = some v := by
  have := h.2.2.2.2 a.block hne
  unfold World.cell? at hc ⊢
  rw [this]
  exact hc
theorem ButB.blk (h : ButB w w' b) {g : Nat} {o : Obj} (hg : w.heap[g]? = some o) (hne : g ≠ b) : w'.heap[g]? = some o := (h.2.2.2.2 g hne).trans hg

theorem MapAt.put (h : MapAt K enc w b ps) {t e : TypeId} (ht : P.underlying t = some (.map k e)) (hl : ps.length < maxLen) {a : α} (ha : K.ok a) (x : β) :
    ∃ w', (Instr.mapUpdate t (.map (some b)) (K.val a) (enc x)).run P w = .ok () w' ∧ MapAt K enc w' b (mput ps a x) ∧ ButB w w' b := by
  obtain ⟨D, h1, h2, h3, h4, h5⟩ := h
  obtain ⟨w', hrun, hown, hturn⟩ := h1.store K.law ht hl (K.of ha) (val := enc x) (d := .held (enc x)) (ps := []) rfl
  have hI := h1.isMap
  have hT := h1.tidy K.law
  have hsz : Maps.size (D.put (K.lit a) (.held (enc x))) = (mput ps a x).length := by
    rw [Maps.size_put hT, mput_length h2, (h5 a).1, h4]
  refine ⟨w', hrun, ⟨D.put (K.lit a) (.held (enc x)), ?_, mput_keys h2 a x, ?_, hsz, fun c => ?_⟩, ButB.of_turned hturn⟩
  · obtain ⟨es, clock, g1, g2, g3, g4⟩ := hown
    refine ⟨es, clock, g1, g2, ?_, g4⟩
    rw [← hsz, g4]
    simp [Maps.size, length_sorted]
  · intro p hp
    rcases List.mem_cons.1 hp with rfl | hp
    · exact ha
    · exact h3 p (List.mem_filter.1 hp).1
  · by_cases hc : c = a
    · subst hc
      rw [mget_put_same]
      exact ⟨Maps.has_put_same hI (K.isk _) _, fun zd => Maps.atKey_put_same hI (K.isk _) _ _⟩
    · have hne : K.lit c ≠ K.lit a := fun e => hc (K.inj e)
      rw [mget_put_other ps x hc]
      exact ⟨(Maps.has_put_other hne _).trans (h5 c).1, fun zd => (Maps.atKey_put_other hne _ _).trans ((h5 c).2 zd)⟩
theorem MapAt.del (h : MapAt K enc w b ps) {t e : TypeId} (ht : P.underlying t = some (.map k e)) {a : α} (ha : K.ok a) (ty : TypeId) :
    ∃ w', (Builtin.delete_ #[t, k] ty #[.map (some b), K.val a]).run P w = .ok (.tuple #[]) w' ∧ MapAt K enc w' b (mdel ps a) ∧ ButB w w' b := by
  obtain ⟨D, h1, h2, h3, h4, h5⟩ := h
  obtain ⟨w', hrun, hown, hturn⟩ := h1.drop K.law ht (K.of ha) ty
  have hT := h1.tidy K.law
  have hsz : Maps.size (D.del (K.lit a)) = (mdel ps a).length := by
    have e1 := Maps.size_del (k := K.lit a) hT
    have e2 := mdel_length h2 a
    rw [(h5 a).1, h4] at e1
    omega
  refine ⟨w', hrun, ⟨D.del (K.lit a), ?_, mdel_keys h2 a, fun p hp => h3 p (List.mem_filter.1 hp).1, hsz, fun c => ?_⟩, ButB.of_turned hturn⟩
  · obtain ⟨es, clock, g1, g2, g3, g4⟩ := hown
    refine ⟨es, clock, g1, g2, ?_, g4⟩
    rw [← hsz, g4]
    simp [Maps.size, length_sorted]
  · by_cases hc : c = a
    · subst hc
      rw [mget_del_same]
      exact ⟨Maps.has_del_same, fun zd => Maps.atKey_del_same _⟩
    · have hne : K.lit c ≠ K.lit a := fun e => hc (K.inj e)
      rw [mget_del_other ps hc]
      exact ⟨(Maps.has_del_other hne).trans (h5 c).1, fun zd => (Maps.atKey_del_other hne _).trans ((h5 c).2 zd)⟩

/-- A range over the map of block b is under way (its block r): todo is what is still to come. -/
def RangeAt (K : KeyKd P k α) (enc : β → Value) (w : World) (b r : Nat) (ps todo : List (α × β)) : Prop :=
  MapAt K enc w b ps ∧ (todo.map (·.1)).Nodup ∧ (∀ p ∈ todo, p ∈ ps) ∧ ∃ (D : DataW Value) (left : Lit → Bool) (cnt : Nat), w.ranges P k anyV b r ps.length D left cnt ∧
    (∀ a, Maps.has D (K.lit a) = (mget ps a).isSome ∧ ∀ zd, D.atKey (K.lit a) zd = ((mget ps a).map (fun x => DataW.held (enc x))).getD zd) ∧
    ∀ a, K.ok a → left (K.lit a) = (mget todo a).isSome

theorem RangeAt.move {r : Nat} {todo : List (α × β)} (h : RangeAt K enc w b r ps todo) (hb : w'.heap[b]? = w.heap[b]?) (hr : w'.heap[r]? = w.heap[r]?) : RangeAt K enc w' b r ps todo := by
  obtain ⟨h1, h2, h3, D, left, cnt, ⟨es, clock, since, seen, c0, g1, g2, g3, g4, g5, g6⟩, h5⟩ := h
  exact ⟨h1.move hb, h2, h3, D, left, cnt, ⟨es, clock, since, seen, c0, hb.trans g1, g2, g3, g4, hr.trans g5, g6⟩, h5⟩
theorem RangeAt.lt {r : Nat} {todo : List (α × β)} (h : RangeAt K enc w b r ps todo) : b < w.heap.size ∧ r < w.heap.size ∧ r ≠ b := by
  obtain ⟨h1, _, _, D, left, cnt, h4, _⟩ := h
  exact ⟨h1.lt, h4.lt, h4.ne⟩
theorem RangeAt.map {r : Nat} {todo : List (α × β)} (h : RangeAt K enc w b r ps todo) : MapAt K enc w b ps := h.1
theorem MapAt.range (h : MapAt K enc w b ps) {t e : TypeId} (ht : P.underlying t = some (.map k e)) :
    ∃ w', (Instr.range t (.map (some b))).run P w = .ok (.pointer (some ⟨w.heap.size, 0, none⟩)) w' ∧ RangeAt K enc w' b w.heap.size ps ps ∧ Below w.heap.size w w' ∧ w'.heap.size = w.heap.size + 1 := by
  have hM := h
  obtain ⟨D, h1, h2, h3, h4, h5⟩ := h
  obtain ⟨w', hrun, hr, hg, hs⟩ := h1.range K.law ht
  have hB : Below w.heap.size w w' := ⟨hg.os, hg.tape, hg.output, hg.size, fun i hi => hg.block i hi (by simp)⟩
  exact ⟨w', hrun, ⟨hM.below hB, h2, fun _ hp => hp, D, Maps.has D, _, hr, h5, fun a _ => (h5 a).1⟩, hB, hs⟩
theorem RangeAt.next {r : Nat} {todo : List (α × β)} (h : RangeAt K enc w b r ps todo) (ty : TypeId) :
    (todo = [] ∧ (Instr.next (.pointer (some ⟨r, 0, none⟩)) false ty).run P w = .ok (.tuple #[.bool false]) w) ∨
    ∃ (a : α) (x : β) (todo' : List (α × β)) (w' : World), todo.Perm ((a, x) :: todo') ∧ (a, x) ∈ ps ∧ K.ok a ∧ (Instr.next (.pointer (some ⟨r, 0, none⟩)) false ty).run P w = .ok (.tuple #[.bool true, K.val a, enc x]) w' ∧
      RangeAt K enc w' b r ps todo' ∧ ButB w w' r ∧ (Instr.entry (.pointer (some ⟨r, 0, none⟩))).run P w' = .ok (.tuple #[K.val a, enc x]) w' := by
  obtain ⟨h1, h2, h3, D, left, cnt, h4, h5, h6⟩ := h
  rcases h4.next K.law ty with ⟨_, hc, hrun⟩ | ⟨key, v, kl, y, w', cnt', hkey, hleft, hR, hat, hrun, hr', hlt, hg, hs, hen⟩
  · refine .inl ⟨?_, hrun⟩
    cases todo with
    | nil => rfl
    | cons p ps' =>
      have := h6 p.1 (h1.oks p (h3 p (by simp)))
      rw [hc, mget_cons, if_pos rfl] at this
      cases this
  · obtain ⟨a, ha, rfl, rfl⟩ := K.inv hkey
    have hm : (mget todo a).isSome = true := by rw [← h6 a ha]; exact hleft
    obtain ⟨x, hx⟩ := Option.isSome_iff_exists.1 hm
    have hmem := mget_some hx
    have hp : mget ps a = some x := mget_mem h1.nodup (h3 _ hmem)
    have hval := (h5 a).2 .nil
    rw [hp, hat .nil] at hval
    injection hR with hR
    rw [← hR] at hval
    have hv : v = enc x := by simpa using hval
    subst hv
    have hperm : todo.Perm ((a, x) :: mdel todo a) := by
      obtain ⟨l1, l2, rfl⟩ := List.append_of_mem hmem
      refine List.perm_middle.trans (List.Perm.cons _ ?_)
      have hn : ∀ p ∈ l1 ++ l2, p.1 ≠ a := by
        intro p hp' e
        have h2' := ((List.perm_middle (a := (a, x)) (l₁ := l1) (l₂ := l2)).map (fun p : α × β => p.1)).nodup_iff.1 h2
        rw [List.map_cons, List.nodup_cons] at h2'
        exact h2'.1 (List.mem_map.2 ⟨p, hp', e⟩)
      have e : mdel (l1 ++ (a, x) :: l2) a = l1 ++ l2 := by
        unfold mdel
        rw [List.filter_append, List.filter_cons]
        simp only [ne_eq, not_true, decide_false, Bool.false_eq_true, if_false]
        rw [← List.filter_append]
        exact List.filter_eq_self.2 (fun p hp' => by simpa using hn p hp')
      rw [e]
    have hB : ButB w w' r := ⟨hg.os, hg.tape, hg.output, hs, fun i hi => by
      by_cases hl : i < w.heap.size
      · exact hg.block i hl (fun e => hi (by injection e))
      · rw [Array.getElem?_eq_none (by omega), Array.getElem?_eq_none (by omega)]⟩
    refine .inr ⟨a, x, mdel todo a, w', hperm, h3 _ hmem, ha, hrun, ⟨h1.move (hB.2.2.2.2 b (Ne.symm h4.ne)), mdel_keys h2 a, fun p hp' => h3 p (List.mem_filter.1 hp').1, D, _, _, hr', h5, fun c hc => ?_⟩, hB, hen⟩
    · by_cases e : c = a
      · subst e
        rw [mget_del_same]
        simp [WideAt.sameKey_self (K.isk c)]
      · rw [mget_del_other todo e, ← h6 c hc, Maps.sameKey_ne (fun e' => e (K.inj e'))]
        simp
end

/-! ### at the operation, for the walk -/
section
variable {α β : Type} [DecidableEq α] {P : Program} {k : TypeId} {K : KeyKd P k α} {enc : β → Value} {w : World} {b : Nat} {ps : List (α × β)} {ops : Array Oper} {rest : List Oper} {o : Oper} {a : Act} {Q : Exit → Act → World → Prop}
theorem wpList_put_at (h : MapAt K enc w b ps) (hg : o.guard = none) (m x v : Operand) (t e : TypeId) (hop : o.op = Op.mapUpdate t m x v) (ht : P.underlying t = some (.map k e)) (hl : ps.length < maxLen)
    (hm : a.eval m = .map (some b)) (c : α) (y : β) (hx : a.eval x = K.val c) (hv : a.eval v = enc y) (hc : K.ok c)
    (hK : ∀ w', MapAt K enc w' b (mput ps c y) → ButB w w' b → wpList P ops Q rest (a.put o.dst undef) w') : wpList P ops Q (o :: rest) a w := by
  refine wpList_plain hg fun K' hK' => ?_
  obtain ⟨w', hrun, r1, r2⟩ := h.put ht hl hc y
  unfold Oper.wp
  simp [execOp, hop, hm, hx, hv, hrun, Result.andThen]
  exact hK' _ _ (hK w' r1 r2)
theorem wpList_del_at (h : MapAt K enc w b ps) (hg : o.guard = none) (m x : Operand) (t e : TypeId) (hop : o.op = Op.call { callee := Callee.builtin Builtin.delete, args := #[m, x], argTypes := #[t, k] }) (ht : P.underlying t = some (.map k e))
    (hm : a.eval m = .map (some b)) (c : α) (hx : a.eval x = K.val c) (hc : K.ok c)
    (hK : ∀ w', MapAt K enc w' b (mdel ps c) → ButB w w' b → wpList P ops Q rest (a.put o.dst (.tuple #[])) w') : wpList P ops Q (o :: rest) a w := by
  refine wpList_plain hg fun K' hK' => ?_
  obtain ⟨w', hrun, r1, r2⟩ := h.del ht hc o.type
  unfold Oper.wp
  simp [execOp, hop, resolve, invoke, builtin, hm, hx, hrun, Result.andThen]
  exact hK' _ _ (hK w' r1 r2)
theorem wpList_len_at (h : MapAt K enc w b ps) (hg : o.guard = none) (m : Operand) (t e : TypeId) (hop : o.op = Op.call { callee := Callee.builtin Builtin.len, args := #[m], argTypes := #[t] }) (ht : P.underlying t = some (.map k e))
    (hm : a.eval m = .map (some b)) (hK : wpList P ops Q rest (a.put o.dst (.int .i64 ps.length)) w) : wpList P ops Q (o :: rest) a w := by
  refine wpList_plain hg fun K' hK' => ?_
  unfold Oper.wp
  simp [execOp, hop, resolve, invoke, builtin, hm, h.len ht o.type, Result.andThen]
  exact hK' _ _ hK
theorem wpList_range_at (h : MapAt K enc w b ps) (hg : o.guard = none) (m : Operand) (t e : TypeId) (hop : o.op = Op.range t m) (ht : P.underlying t = some (.map k e))
    (hm : a.eval m = .map (some b)) (hK : ∀ w', RangeAt K enc w' b w.heap.size ps ps → Below w.heap.size w w' → w'.heap.size = w.heap.size + 1 → wpList P ops Q rest (a.put o.dst (.pointer (some ⟨w.heap.size, 0, none⟩))) w') : wpList P ops Q (o :: rest) a w := by
  refine wpList_plain hg fun K' hK' => ?_
  obtain ⟨w', hrun, r1, r2, r3⟩ := h.range ht
  unfold Oper.wp
  simp [execOp, hop, hm, hrun, Result.andThen]
  exact hK' _ _ (hK w' r1 r2 r3)
theorem wpList_next_at {r : Nat} {todo : List (α × β)} (h : RangeAt K enc w b r ps todo) (hg : o.guard = none) (it : Operand) (hop : o.op = Op.next it false) (hit : a.eval it = .pointer (some ⟨r, 0, none⟩))
    (hDone : todo = [] → wpList P ops Q rest (a.put o.dst (.tuple #[.bool false])) w)
    (hMore : ∀ (c : α) (x : β) (todo' : List (α × β)) (w' : World), todo.Perm ((c, x) :: todo') → (c, x) ∈ ps → K.ok c → RangeAt K enc w' b r ps todo' → ButB w w' r → (Instr.entry (.pointer (some ⟨r, 0, none⟩))).run P w' = .ok (.tuple #[K.val c, enc x]) w' → wpList P ops Q rest (a.put o.dst (.tuple #[.bool true, K.val c, enc x])) w') :
    wpList P ops Q (o :: rest) a w := by
  refine wpList_plain hg fun K' hK' => ?_
  rcases h.next o.type with ⟨h0, hrun⟩ | ⟨c, x, todo', w', h1, h2, h3, hrun, h4, h5, h6⟩
  · unfold Oper.wp
    simp [execOp, hop, hit, hrun, Result.andThen]
    exact hK' _ _ (hDone h0)
  · unfold Oper.wp
    simp [execOp, hop, hit, hrun, Result.andThen]
    exact hK' _ _ (hMore c x todo' w' h1 h2 h3 h4 h5 h6)
end
end Go.Proofs.Ytehkhopkedbngaa
