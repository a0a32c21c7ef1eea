/- Put together: What is known for a while: the plain law of a ledger, a row that rises by its keys. No program in it. · A ledger in memory (values of type int): New, Len, Get, Until, Put, Drop. · maps.Clone at one map type, by its text. · A ledger in memory (values of type int): Len, Copy. · A row of scalars that the library's sort has turned: what lies where. No program in it. · ledger.Ledger.Sweep: the order of what is past, and slices.SortFunc by it. · ledger.Ledger.Sweep. · A ledger (values of type int) among what a law holds: what each call leaves. · A ledger (values of type int) among what a law holds: Len, Copy, Sweep. -/
import Derived.Test.YtipdleiginnjmaaGreatDoorH1
import Derived.Sort.Walk0
import Derived.Deep.QuietTactic
import Derived.BigQuiet
import Derived.StillTailTactics
import Derived.Deep.DeepCutAuto
import Derived.Shelf.SlMaps.Clone
import Derived.Deep.RegionHeld3
import Derived.Shelf.GgSortFunc.Insertion
import Derived.Sort.OwnSorted
import Derived.Test.YtipdleiginnjmaaGreatDoorShelfSortS
import Derived.Test.YtipdleiginnjmaaGreatDoorShelfStrCmp
import Derived.Deep.LoopGhost
set_option linter.unusedVariables false
set_option linter.unusedSimpArgs false
namespace Go.Proofs.YtipdleiginnjmaaGreatDoor

/-- Go's '<' on strings. -/
def bl (a b : ByteArray) : Prop := a.data.toList < b.data.toList
instance (a b : ByteArray) : Decidable (bl a b) := inferInstanceAs (Decidable (a.data.toList < b.data.toList))
theorem bl_irrefl (a : ByteArray) : ¬ bl a a := List.lt_irrefl _
theorem bl_trans {a b c : ByteArray} (h1 : bl a b) (h2 : bl b c) : bl a c := List.lt_trans h1 h2
theorem bl_asymm {a b : ByteArray} (h : bl a b) : ¬ bl b a := fun h2 => bl_irrefl a (bl_trans h h2)
theorem bl_tri {a b : ByteArray} (h : a ≠ b) : bl a b ∨ bl b a := by
  rcases Classical.em (bl a b) with h1 | h1
  · exact .inl h1
  · rcases Classical.em (bl b a) with h2 | h2
    · exact .inr h2
    · refine absurd (Go.WideShapes.bytes_inj (List.le_antisymm ?_ ?_)) h
      · exact h2
      · exact h1
theorem bl_less (a b : ByteArray) : Op.bytesLess a.toList b.toList = decide (bl a b) := by
  rw [ByteArray.toList_eq, ByteArray.toList_eq, bytesLess_eq]
  rfl

/-- An entry: its key, its value, until when. -/
abbrev Ent (α : Type) := ByteArray × (α × Int)
section
variable {α : Type}
def Rising (r : List (Ent α)) : Prop := r.Pairwise (fun a b => bl a.1 b.1)
def hasKey (r : List (Ent α)) (k : ByteArray) : Bool := r.any (fun p => decide (p.1 = k))
def ldPut (r : List (Ent α)) (k : ByteArray) (x : α × Int) : List (Ent α) := (mdel r k).filter (fun p => decide (bl p.1 k)) ++ (k, x) :: (mdel r k).filter (fun p => decide (bl k p.1))
/-- Whether a key may be put. -/
def mayPut (room : Int) (r : List (Ent α)) (k : ByteArray) : Bool := hasKey r k || decide ((r.length : Int) < room)
theorem has_get (r : List (Ent α)) (k : ByteArray) : hasKey r k = (mget r k).isSome := by
  unfold hasKey mget
  rw [Option.isSome_map, List.any_eq, Bool.eq_iff_iff]
  simp [List.find?_isSome]
theorem Rising.nil : Rising ([] : List (Ent α)) := List.Pairwise.nil
theorem Rising.filter {r : List (Ent α)} (h : Rising r) (f : Ent α → Bool) : Rising (r.filter f) := List.Pairwise.filter _ h
theorem Rising.keys {r : List (Ent α)} (h : Rising r) : (r.map (·.1)).Nodup := by
  rw [List.nodup_iff_pairwise_ne, List.pairwise_map]
  unfold Rising at h
  refine h.imp (fun {a b} hab e => ?_)
  rw [e] at hab
  exact bl_irrefl _ hab
theorem Rising.put {r : List (Ent α)} (h : Rising r) (k : ByteArray) (x : α × Int) : Rising (ldPut r k x) := by
  unfold ldPut Rising
  have hd : Rising (mdel r k) := h.filter _
  rw [List.pairwise_append]
  refine ⟨hd.filter _, ?_, fun a ha b hb => ?_⟩
  · rw [List.pairwise_cons]
    exact ⟨fun b hb => by simpa using (List.mem_filter.1 hb).2, hd.filter _⟩
  · have h1 : bl a.1 k := by simpa using (List.mem_filter.1 ha).2
    rcases List.mem_cons.1 hb with rfl | hb
    · exact h1
    · have h2 : bl k b.1 := by simpa using (List.mem_filter.1 hb).2
      exact bl_trans h1 h2
theorem put_perm (r : List (Ent α)) (k : ByteArray) (x : α × Int) : (mput r k x).Perm (ldPut r k x) := by
  unfold mput ldPut
  refine List.Perm.trans ?_ (List.perm_middle).symm
  refine List.Perm.cons _ ?_
  have hne : ∀ p ∈ mdel r k, p.1 ≠ k := fun p hp => by simpa using (List.mem_filter.1 hp).2
  have e : (mdel r k).filter (fun p => decide (bl k p.1)) = (mdel r k).filter (fun p => !decide (bl p.1 k)) := by
    apply List.filter_congr
    intro p hp
    rcases bl_tri (hne p hp) with h | h
    · simp [h, bl_asymm h]
    · simp [h, bl_asymm h]
  rw [e]
  exact (List.filter_append_perm (fun p : Ent α => decide (bl p.1 k)) (mdel r k)).symm
theorem ldPut_len {r : List (Ent α)} (h : Rising r) (k : ByteArray) (x : α × Int) : (ldPut r k x).length = if hasKey r k then r.length else r.length + 1 := by
  rw [← (put_perm r k x).length_eq, mput_length h.keys, has_get]
theorem ldPut_get {r : List (Ent α)} (h : Rising r) (k : ByteArray) (x : α × Int) (k' : ByteArray) : mget (ldPut r k x) k' = if k' = k then some x else mget r k' := by
  rw [mget_perm (mput_keys h.keys k x) (put_perm r k x)]
  by_cases e : k' = k
  · subst e; rw [if_pos rfl, mget_put_same]
  · rw [if_neg e, mget_put_other _ _ e]
theorem hasKey_put {r : List (Ent α)} (h : Rising r) (k : ByteArray) (x : α × Int) (k' : ByteArray) : hasKey (ldPut r k x) k' = (decide (k' = k) || hasKey r k') := by
  rw [has_get, has_get, ldPut_get h]
  by_cases e : k' = k <;> simp [e]
theorem hasKey_del (r : List (Ent α)) (k k' : ByteArray) : hasKey (mdel r k) k' = (!decide (k' = k) && hasKey r k') := by
  rw [has_get, has_get]
  by_cases e : k' = k
  · subst e; rw [mget_del_same]; simp
  · rw [mget_del_other _ e]; simp [e]
/-- What is past: its entries, by their time, and then by their keys. -/
def leE (a b : Ent α) : Bool := decide (a.2.2 < b.2.2 ∨ a.2.2 = b.2.2 ∧ ¬ bl b.1 a.1)
def past (r : List (Ent α)) (now : Int) : List (Ent α) := (r.filter (fun p => decide (p.2.2 ≤ now))).mergeSort leE
def left (r : List (Ent α)) (now : Int) : List (Ent α) := r.filter (fun p => decide (now < p.2.2))
theorem leE_trans (a b c : Ent α) (h1 : leE a b = true) (h2 : leE b c = true) : leE a c = true := by
  unfold leE at *
  rw [decide_eq_true_iff] at *
  rcases h1 with h1 | ⟨h1, h1'⟩ <;> rcases h2 with h2 | ⟨h2, h2'⟩
  · left; omega
  · left; omega
  · left; omega
  · right
    refine ⟨by omega, fun h => ?_⟩
    rcases Classical.em (a.1 = b.1) with e | e
    · rw [e] at h; exact h2' h
    · rcases bl_tri e with h3 | h3
      · exact h2' (bl_trans h h3)
      · exact h1' h3
theorem leE_total (a b : Ent α) : (leE a b || leE b a) = true := by
  unfold leE
  rw [Bool.or_eq_true, decide_eq_true_iff, decide_eq_true_iff]
  rcases Int.lt_trichotomy a.2.2 b.2.2 with h | h | h
  · exact .inl (.inl h)
  · rcases Classical.em (bl b.1 a.1) with h1 | h1
    · exact .inr (.inr ⟨h.symm, bl_asymm h1⟩)
    · exact .inl (.inr ⟨h, h1⟩)
  · exact .inr (.inl h)
theorem past_perm (r : List (Ent α)) (now : Int) : (past r now).Perm (r.filter (fun p => decide (p.2.2 ≤ now))) := List.mergeSort_perm _ _
theorem past_sorted (r : List (Ent α)) (now : Int) : (past r now).Pairwise (fun a b => leE a b = true) := List.pairwise_mergeSort leE_trans leE_total _
theorem past_keys {r : List (Ent α)} (h : Rising r) (now : Int) : ((past r now).map (·.1)).Nodup := ((past_perm r now).map _).nodup_iff.2 (h.filter _).keys
theorem past_mem {r : List (Ent α)} {now : Int} {p : Ent α} : p ∈ past r now ↔ p ∈ r ∧ p.2.2 ≤ now := by rw [(past_perm r now).mem_iff, List.mem_filter, decide_eq_true_iff]
/-- A permutation of what is past, in this order, is it. -/
theorem past_unique {r : List (Ent α)} (h : Rising r) {now : Int} {l : List (Ent α)} (hp : l.Perm (r.filter (fun p => decide (p.2.2 ≤ now)))) (hs : l.Pairwise (fun a b => leE a b = true)) : l = past r now := by
  refine List.Perm.eq_of_pairwise (le := fun a b => leE a b = true) (fun a b ha hb h1 h2 => ?_) hs (past_sorted r now) (hp.trans (past_perm r now).symm)
  unfold leE at h1 h2
  rw [decide_eq_true_iff] at h1 h2
  have hk : a.1 = b.1 := by
    rcases Classical.em (a.1 = b.1) with e | e
    · exact e
    · rcases bl_tri e with h3 | h3
      · rcases h2 with h2 | h2
        · rcases h1 with h1 | h1 <;> omega
        · exact absurd h3 h2.2
      · rcases h1 with h1 | h1
        · rcases h2 with h2 | h2 <;> omega
        · exact absurd h3 h1.2
  have h3 := mget_mem h.keys (List.mem_filter.1 (hp.mem_iff.1 ha)).1
  have h4 := mget_mem h.keys (List.mem_filter.1 ((past_perm r now).mem_iff.1 hb)).1
  rw [hk, h4] at h3
  exact Prod.ext hk (Option.some.inj h3).symm
/-- Without all that is past, key by key. -/
def dropKeys (r : List (Ent α)) (ks : List ByteArray) : List (Ent α) := r.filter (fun p => !ks.any (fun k => decide (k = p.1)))
theorem dropKeys_nil (r : List (Ent α)) : dropKeys r [] = r := by unfold dropKeys; simp
theorem dropKeys_snoc (r : List (Ent α)) (ks : List ByteArray) (k : ByteArray) : dropKeys r (ks ++ [k]) = mdel (dropKeys r ks) k := by
  unfold dropKeys mdel
  rw [List.filter_filter]
  apply List.filter_congr
  intro p _
  rw [List.any_append]
  by_cases e : k = p.1
  · simp [e]
  · have e2 : p.1 ≠ k := fun h => e h.symm
    simp [e, e2]
theorem left_eq {r : List (Ent α)} (h : Rising r) (now : Int) : dropKeys r ((past r now).map (·.1)) = left r now := by
  unfold dropKeys left
  apply List.filter_congr
  intro p hp
  by_cases hn : now < p.2.2
  · rw [decide_eq_true hn]
    rw [Bool.not_eq_true', List.any_eq_false]
    intro k hk e
    obtain ⟨q, hq, rfl⟩ := List.mem_map.1 hk
    obtain ⟨hq1, hq2⟩ := past_mem.1 hq
    have e : q.1 = p.1 := by simpa using e
    have h3 := mget_mem h.keys hq1
    have h4 := mget_mem h.keys hp
    rw [e, h4] at h3
    have := Option.some.inj h3
    rw [this] at hn
    omega
  · rw [decide_eq_false hn]
    rw [Bool.not_eq_false', List.any_eq_true]
    exact ⟨p.1, List.mem_map_of_mem (past_mem.2 ⟨hp, by omega⟩), by simp⟩
theorem left_len (r : List (Ent α)) (now : Int) : (past r now).length + (left r now).length = r.length := by
  rw [(past_perm r now).length_eq]
  unfold left
  induction r with
  | nil => rfl
  | cons p r ih =>
    rw [List.filter_cons, List.filter_cons, List.length_cons]
    by_cases h : p.2.2 ≤ now
    · have : ¬ now < p.2.2 := by omega
      simp only [h, this, decide_true, decide_false, if_true, Bool.false_eq_true, if_false, List.length_cons]
      omega
    · have : now < p.2.2 := by omega
      simp only [h, this, decide_true, decide_false, if_true, Bool.false_eq_true, if_false, List.length_cons]
      omega
end
end Go.Proofs.YtipdleiginnjmaaGreatDoor
namespace Go.Proofs.YtipdleiginnjmaaGreatDoor
open Go.RowKit Go.Proofs.YtipdleiginnjmaaGreatDoorW.PrintWords

noncomputable def KLI : KeyKd Tryz.prog 9 ByteArray := strKey Tryz.underlying9
theorem under_ldI : Tryz.prog.underlying 249 = some (.map 9 254) := Tryz.underlying249
theorem zero_ldI (w : World) : (zeroValue 254).run Tryz.prog w = .ok (.agg #[.int .i64 0, .int .i64 0]) w := by kernel_rfl
def encLI (p : Int × Int) : Value := .agg #[.int .i64 p.1, .int .i64 p.2]

structure LdIV (w : World) (ok : Nat → Prop) (lb mb : Nat) (room : Int) (r : List (Ent Int)) : Prop where
  hd : w.heap[lb]? = some (.cells #[.int .i64 room, .map (some mb)] 251 (0, 0))
  map : MapAt KLI encLI w mb r
  oklb : ok lb
  okmb : ok mb
  row : Rising r
def LdIAt (w : World) (ok : Nat → Prop) (lb : Nat) (room : Int) (r : List (Ent Int)) : Prop := ∃ mb, LdIV w ok lb mb room r
section
variable {w w' : World} {ok ok' S : Nat → Prop} {lb mb : Nat} {room : Int} {r : List (Ent Int)}
theorem LdIV.move (h : LdIV w ok lb mb room r) (hm : ∀ k, ok k → k < w.heap.size → w'.heap[k]? = w.heap[k]?) : LdIV w' ok lb mb room r :=
  ⟨(hm lb h.oklb (blk_lt h.hd)).trans h.hd, h.map.move (hm mb h.okmb h.map.lt), h.oklb, h.okmb, h.row⟩
theorem LdIAt.move (h : LdIAt w ok lb room r) (hm : ∀ k, ok k → k < w.heap.size → w'.heap[k]? = w.heap[k]?) : LdIAt w' ok lb room r := by
  obtain ⟨mb, h⟩ := h
  exact ⟨mb, h.move hm⟩
theorem LdIAt.mono (h : LdIAt w ok lb room r) (hm : ∀ k, ok k → k < w.heap.size → ok' k) : LdIAt w ok' lb room r := by
  obtain ⟨mb, h1, h2, h3, h4, h5⟩ := h
  exact ⟨mb, h1, h2, hm lb h3 (blk_lt h1), hm mb h4 h2.lt, h5⟩
theorem LdIAt.below (h : LdIAt w ok lb room r) (hb : Below w.heap.size w w') : LdIAt w' ok lb room r := h.move (fun k _ hk => hb.block k hk)
theorem LdIAt.rising (h : LdIAt w ok lb room r) : Rising r := by
  obtain ⟨mb, h⟩ := h
  exact h.row
theorem LdIV.cells (h : LdIV w ok lb mb room r) : w.cell? ⟨lb, 0, none⟩ = some (.int .i64 room) ∧ w.cell? ⟨lb, 1, none⟩ = some (.map (some mb)) ∧ lb < w.heap.size := by
  have t0 := blk_cell h.hd 0
  have t1 := blk_cell h.hd 1
  exact ⟨t0, t1, blk_lt h.hd⟩
end

set_option maxHeartbeats 400000 in
theorem ldINew_any (w : World) (room : Int) : Calls Tryz.prog 152 #[.int .i64 room] w fun e w' => ∃ lb, e = .returned (.pointer (some ⟨lb, 0, none⟩)) ∧ LdIAt w' (fun k => w.heap.size ≤ k) lb (max room 0) [] ∧ Below w.heap.size w w' := by
  have hmm := @run_makeMap Tryz.prog
  obtain ⟨rm, hrm⟩ : ∃ rm, rm = max room 0 := ⟨_, rfl⟩
  rw [← hrm]
  have hmx : ∀ ts t W, (Builtin.max_ ts t #[.int .i64 room, .int .i64 0]).run Tryz.prog W = .ok (.int .i64 rm) W := by
    intro ts t W
    simp [Builtin.max_, Builtin.max2]
    rw [hrm]
    split <;> omega
  clear hrm
  go_enter Tryz.func152, Tryz.ntmps152
  go_wp2
  go_ret
  have hB1 : Below w.heap.size w (w.alloc (.map #[] 0)) := below_alloc (Below.refl _ _) _
  refine ⟨w.heap.size + 1, rfl, ⟨w.heap.size, ⟨?_, ?_, ?_, Nat.le_refl _, Rising.nil⟩⟩, below_alloc hB1 _⟩
  · have := heap_alloc_new (w.alloc (.map #[] 0)) (.cells #[.int .i64 rm, .map (some w.heap.size)] 251)
    simpa using this
  · exact (MapAt.made KLI encLI w).below (below_alloc (Below.refl _ _) _)
  · omega

/-- What is known of a key. -/
def ldIGet (r : List (Ent Int)) (k : ByteArray) : (Int × Int) × Bool := match mget r k with | some x => (x, true) | none => ((0, 0), false)
theorem ldILook {w : World} {ok : Nat → Prop} {lb mb : Nat} {room : Int} {r : List (Ent Int)} (h : LdIV w ok lb mb room r) {k : ByteArray} (hk : k.size ≤ maxLen) :
    (Instr.lookup 249 (.map (some mb)) (.string k) true).run Tryz.prog w = .ok (.tuple #[.agg #[.int .i64 (ldIGet r k).1.1, .int .i64 (ldIGet r k).1.2], .bool (ldIGet r k).2]) w := by
  have hlk := h.map.look under_ldI (zero_ldI w) (a := k) hk
  unfold ldIGet
  cases hm : mget r k with
  | none => rw [hm] at hlk; exact hlk
  | some v => rw [hm] at hlk; exact hlk

set_option maxHeartbeats 400000 in
theorem ldIGet_any (w : World) (ok : Nat → Prop) (lb : Nat) (room : Int) (r : List (Ent Int)) (k : ByteArray) (h : LdIAt w ok lb room r) (hk : k.size ≤ maxLen) :
    Calls Tryz.prog 154 #[.pointer (some ⟨lb, 0, none⟩), .string k] w fun e w' => e = .returned (.tuple #[.int .i64 (ldIGet r k).1.1, .bool (ldIGet r k).2]) ∧ Below w.heap.size w w' := by
  obtain ⟨mb, hV⟩ := h
  have hlk := ldILook hV hk
  obtain ⟨t0, t1, hlt⟩ := hV.cells
  generalize ldIGet r k = p at *
  obtain ⟨⟨p1, p2⟩, p3⟩ := p
  clear hV
  go_enter Tryz.func154, Tryz.ntmps154
  go_wp2_with fail
  refine bodyPost_ret (v := .tuple #[.int .i64 p1, .bool p3]) (by simp [results, Tryz.results154, go_sem]) rfl ?_
  exact ⟨rfl, below_alloc (Below.refl _ _) _⟩

theorem ldI_has (r : List (Ent Int)) (k : ByteArray) : (ldIGet r k).2 = hasKey r k := by
  rw [has_get]
  unfold ldIGet
  cases mget r k <;> rfl
set_option maxHeartbeats 800000 in
set_option maxRecDepth 100000 in
theorem ldIPut_any (w : World) (ok : Nat → Prop) (lb : Nat) (room : Int) (r : List (Ent Int)) (k : ByteArray) (v : Int) (u : Int) (h : LdIAt w ok lb room r) (hk : k.size ≤ maxLen) (hr : r.length ≤ 1000000) :
    Calls Tryz.prog 157 #[.pointer (some ⟨lb, 0, none⟩), .string k, .int .i64 v, .int .i64 u] w fun e w' => e = .returned (.int .i64 (if mayPut room r k then 0 else 5)) ∧ LdIAt w' ok lb room (if mayPut room r k then ldPut r k (v, u) else r) ∧ Keep ok w w' := by
  obtain ⟨mb, hV⟩ := h
  have hlk := ldILook hV hk
  have hh := ldI_has r k
  obtain ⟨t0, t1, hlt⟩ := hV.cells
  obtain ⟨W1, hW1⟩ : ∃ W1, W1 = w.alloc (.cells #[.int .i64 (ldIGet r k).1.1, .int .i64 (ldIGet r k).1.2] 254) := ⟨_, rfl⟩
  have hB1 : Below w.heap.size w W1 := by rw [hW1]; exact below_alloc (Below.refl _ _) _
  have HV1 := Lib.hid (hV.move (fun k _ hk => hB1.block k hk))
  have HB1 := Lib.hid hB1
  generalize ldIGet r k = p at *
  obtain ⟨⟨p1, p2⟩, p3⟩ := p
  have hlen : ∀ n, (Builtin.len_ #[249] 3 #[.map (some mb)]).run Tryz.prog (W1.drewN n) = .ok (.int .i64 r.length) (W1.drewN n) := fun n => MapAt.len (show MapAt KLI encLI (W1.drewN n) mb r from HV1.out.map) under_ldI 3
  have hput : ∀ W : World, (∀ k, k < W1.heap.size → W.heap[k]? = W1.heap[k]?) → MapAt KLI encLI W mb r := fun W hW => HV1.out.map.move (hW mb HV1.out.map.lt)
  have HPT := Lib.hid hput
  have hmx : r.length < maxLen := by simp [maxLen]; omega
  have hpost : ∀ (W w' : World), W.os = W1.os → W.tape = W1.tape → W.output = W1.output → W.heap = W1.heap → MapAt KLI encLI w' mb (mput r k (v, u)) → ButB W w' mb → LdIAt w' ok lb room (ldPut r k (v, u)) ∧ Keep ok w w' := by
    intro W w' e1 e2 e3 e4 hM hB
    have hB' : ButB W1 w' mb := ⟨hB.1.trans e1, hB.2.1.trans e2, hB.2.2.1.trans e3, by rw [hB.2.2.2.1, e4], fun i hi => by rw [hB.2.2.2.2 i hi, e4]⟩
    refine ⟨⟨mb, hB'.blk HV1.out.hd (Ne.symm (HV1.out.map.ne_cells HV1.out.hd)), hM.perm (put_perm r k (v, u)), HV1.out.oklb, HV1.out.okmb, HV1.out.row.put k (v, u)⟩, ?_⟩
    exact (Keep.of_below HB1.out ok).trans (hB'.keep (S := fun k => ok k ∨ w.heap.size ≤ k) (.inl HV1.out.okmb))
  have HPO := Lib.hid hpost
  have hfull : LdIAt W1 ok lb room r ∧ Keep ok w W1 := ⟨⟨mb, HV1.out⟩, Keep.of_below HB1.out ok⟩
  have HF := Lib.hid hfull
  have HW1 := Lib.hid hW1
  clear hV hput hpost hfull hB1
  have hp3 : p3 = hasKey r k := hh
  clear hh
  by_cases hknown : hasKey r k = true
  · rw [hknown] at hp3
    subst hp3
    have hmay : mayPut room r k = true := by unfold mayPut; rw [hknown]; rfl
    rw [if_pos hmay, if_pos hmay]
    clear hW1 hlen hmay
    go_enter Tryz.func157, Tryz.ntmps157
    go_wp2_with fail
    rw [← HW1.out]
    have s1 := blk_cell HV1.out.hd 1
    simp only [List.getElem?_toArray, List.getElem?_cons_succ, List.getElem?_cons_zero] at s1
    have hlt1 := blk_lt HV1.out.hd
    go_quiet (fail)
    go_wp2_with (refine wpList_put_at (K := KLI) (enc := encLI) (HPT.out (W1.drewN nq) (fun _ _ => rfl)) (by rfl) (.tmp 37) (.tmp 38) (.tmp 41) 249 254 rfl under_ldI hmx rfl k (v, u) rfl rfl hk ?_; intro w6 hM6 hB6)
    have HR := Lib.hid (HPO.out _ _ rfl rfl rfl rfl hM6 hB6)
    clear hM6 hB6
    go_wp2_with fail
    go_ret
    exact ⟨rfl, HR.out⟩
  · have hk0 : hasKey r k = false := by simpa using hknown
    rw [hk0] at hp3
    subst hp3
    clear hknown
    by_cases hroom : (r.length : Int) < room
    · have hmay : mayPut room r k = true := by unfold mayPut; rw [hk0]; simpa using hroom
      rw [if_pos hmay, if_pos hmay]
      have hge : ¬ (room ≤ (r.length : Int)) := by omega
      clear hW1 hmay
      go_enter Tryz.func157, Tryz.ntmps157
      go_wp2_with fail
      rw [← HW1.out]
      have s0 := blk_cell HV1.out.hd 0
      have s1 := blk_cell HV1.out.hd 1
      simp only [List.getElem?_toArray, List.getElem?_cons_succ, List.getElem?_cons_zero] at s0 s1
      have hlt1 := blk_lt HV1.out.hd
      go_quiet (fail)
      go_wp2_with (refine wpList_put_at (K := KLI) (enc := encLI) (HPT.out (W1.drewN nq) (fun _ _ => rfl)) (by rfl) (.tmp 37) (.tmp 38) (.tmp 41) 249 254 rfl under_ldI hmx rfl k (v, u) rfl rfl hk ?_; intro w6 hM6 hB6)
      have HR := Lib.hid (HPO.out _ _ rfl rfl rfl rfl hM6 hB6)
      clear hM6 hB6
      go_wp2_with fail
      go_ret
      exact ⟨rfl, HR.out⟩
    · have hmay : ¬ mayPut room r k = true := by unfold mayPut; rw [hk0]; simpa using hroom
      rw [if_neg hmay, if_neg hmay]
      have hge : room ≤ (r.length : Int) := by omega
      clear hW1 hmay
      go_enter Tryz.func157, Tryz.ntmps157
      go_wp2_with fail
      rw [← HW1.out]
      have s0 := blk_cell HV1.out.hd 0
      have s1 := blk_cell HV1.out.hd 1
      simp only [List.getElem?_toArray, List.getElem?_cons_succ, List.getElem?_cons_zero] at s0 s1
      have hlt1 := blk_lt HV1.out.hd
      go_quiet (fail)
      go_wp2_with fail
      go_ret
      exact ⟨rfl, HF.out.1.move (fun _ _ _ => rfl), ⟨HF.out.2.os, HF.out.2.tape, HF.out.2.output, HF.out.2.size, HF.out.2.block⟩⟩

end Go.Proofs.YtipdleiginnjmaaGreatDoor
namespace Go.Proofs.YtipdleiginnjmaaGreatDoor
open Go.RowKit Go.Maps Go.Proofs.YtipdleiginnjmaaGreatDoorW.PrintWords

set_option maxHeartbeats 800000 in
set_option maxRecDepth 100000 in
theorem mapsCloneLI_any (b : Nat) (es : Array MapEntry) (clock : Nat) (w : World) (hb : w.heap[b]? = some (.map es clock)) :
    Calls Tryz.prog 137 #[.map (some b)] w fun e w' => e = .returned (.map (some w.heap.size)) ∧ w' = w.alloc (.map es clock) := by
  have hq := fun w => run_eql_map_nil_sl (P := Tryz.prog) w 249 _ _ (some b) (Tryz.underlying249)
  go_enter Tryz.func137, Tryz.ntmps137
  go_wp2
  rw [run_callFunc_extern Tryz.func84 (by kernel_rfl) (by kernel_rfl) (by kernel_rfl) (e := Extern.MapsClone.clone) (by kernel_rfl), run_maps_clone_sl w 249 hb]
  simp only [Result.andThen]
  rw [Oper.upon_value]
  go_wp2
  rw [run_typeAssert_map_sl _ 249 20 _ _ _ (Tryz.underlying249)]
  simp only [Result.andThen]
  rw [Oper.upon_value]
  go_wp2
  go_ret
  exact ⟨rfl, rfl⟩
theorem mapsCloneLI_at {α β : Type} [DecidableEq α] {k : TypeId} (K : KeyKd Tryz.prog k α) (enc : β → Value) (w : World) (b : Nat) (ps : List (α × β)) (h : MapAt K enc w b ps) :
    Calls Tryz.prog 137 #[.map (some b)] w fun e w' => ∃ c, e = .returned (.map (some c)) ∧ MapAt K enc w' c ps ∧ w.heap.size ≤ c ∧ Below w.heap.size w w' := by
  obtain ⟨es, clock, h1, h2⟩ := h.clone
  refine (mapsCloneLI_any b es clock w h1).mono ?_
  rintro e w' ⟨rfl, rfl⟩
  exact ⟨_, rfl, h2 _ _ (heap_alloc_new w _), Nat.le_refl _, below_alloc (Below.refl _ _) _⟩
end Go.Proofs.YtipdleiginnjmaaGreatDoor
namespace Go.Proofs.YtipdleiginnjmaaGreatDoor
open Go.RowKit Go.Proofs.YtipdleiginnjmaaGreatDoorW.PrintWords

set_option maxHeartbeats 400000 in
theorem ldILen_any (w : World) (ok : Nat → Prop) (lb : Nat) (room : Int) (r : List (Ent Int)) (h : LdIAt w ok lb room r) : Calls Tryz.prog 155 #[.pointer (some ⟨lb, 0, none⟩)] w fun e w' => e = .returned (.int .i64 r.length) ∧ w = w' := by
  obtain ⟨mb, hV⟩ := h
  obtain ⟨t0, t1, hlt⟩ := hV.cells
  have hlen := hV.map.len under_ldI 3
  clear hV
  go_enter Tryz.func155, Tryz.ntmps155
  go_wp2_with fail
  go_ret
  exact ⟨rfl, rfl⟩

set_option maxHeartbeats 800000 in
theorem ldICopy_any (w : World) (ok : Nat → Prop) (lb : Nat) (room : Int) (r : List (Ent Int)) (h : LdIAt w ok lb room r) :
    Calls Tryz.prog 87 #[.pointer (some ⟨lb, 0, none⟩)] w fun e w' => ∃ cb, e = .returned (.pointer (some ⟨cb, 0, none⟩)) ∧ LdIAt w' (fun k => w.heap.size ≤ k) cb room r ∧ Below w.heap.size w w' := by
  obtain ⟨mb, hV⟩ := h
  obtain ⟨t0, t1, hlt⟩ := hV.cells
  have HM := Lib.hid (show MapAt KLI encLI w.drew mb r from hV.map)
  have HR := Lib.hid hV.row
  clear hV
  go_enter Tryz.func87, Tryz.ntmps87
  go_wp2_with fail
  go_region_held3 (fun w' => w'.cell? ⟨lb, 0, none⟩ = some (.int .i64 room) ∧ w'.cell? ⟨lb, 1, none⟩ = some (.map (some mb))) (first | go_keep | (go_split_ands; exact ⟨cell_later hB (by assumption), cell_later hB (by assumption)⟩)) (first | (go_at_call 137; refine Calls.mono (mapsCloneLI_at KLI encLI _ mb r HM.out) ?_; rintro e w1 ⟨cm, rfl, hM, hcm, hB⟩))
  all_goals
    have HM1 := Lib.hid hM
    have HB1 := Lib.hid (below_undrew hB)
    have hcm : w.heap.size ≤ cm := hcm
    clear hM hB
    go_wp2
    go_ret
    exact ⟨_, rfl, ⟨cm, heap_alloc_new _ _, HM1.out.below (below_alloc (Below.refl _ _) _), HB1.out.size, hcm, HR.out⟩, below_alloc HB1.out _⟩
end Go.Proofs.YtipdleiginnjmaaGreatDoor
namespace Go.Proofs.YtipdleiginnjmaaGreatDoor
open Go.RowKit Go.Proofs.YtipdleiginnjmaaGreatDoorW.PrintWords
open Go.Sort (grow putRow putCells ahead mapBlock Holds onCells size_putRow grow_empty heap_grow_old)

section
variable {α : Type} [Inhabited α] (enc : α → Value)
theorem swHeap (w : World) (blk off m : Nat) (dk : Array α) (os : Array Obj) {k : Nat} (hne : k ≠ blk) (hk : k < w.heap.size) : (sortWorld enc w blk off m dk os).heap[k]? = w.heap[k]? := by
  unfold sortWorld
  rw [heap_grow_old _ _ (by simp [putRow, mapBlock]; omega)]
  have : blk ≠ k := fun e => hne e.symm
  simp [putRow, mapBlock, Array.getElem?_modify, this]
theorem swBlk {w : World} {g m : Nat} {os : Array Obj} {cur : Array Value} {e : TypeId} {fr : Nat × Nat} (d : Array α) (hb : w.heap[g]? = some (.cells cur e fr)) :
    (sortWorld enc w g 0 m d os).heap[g]? = some (.cells (putCells enc 0 d cur) e fr) := by
  have hg : g < w.heap.size := (Array.getElem?_eq_some_iff.1 hb).1
  unfold sortWorld
  rw [heap_grow_old _ _ (by simpa using hg)]
  simp [putRow, mapBlock, Array.getElem?_modify, hb, onCells]
theorem swGrown {w : World} {g m : Nat} {os : Array Obj} (d : Array α) : w.grownBy (sortWorld enc w g 0 m d os) (some g) := by
  unfold sortWorld
  refine ⟨rfl, rfl, rfl, by simp, fun k hk hne => ?_⟩
  rw [heap_grow_old _ _ (by simpa using hk)]
  have : g ≠ k := fun e => hne (by rw [e])
  simp [putRow, mapBlock, Array.getElem?_modify, this]
theorem swTake (cur : Array Value) (ts : List α) (h : ts.length ≤ cur.size) : (putCells enc 0 ts.toArray cur).toList.take ts.length = ts.map enc := by
  apply List.ext_getElem?
  intro j
  by_cases hj : j < ts.length
  · rw [List.getElem?_take_of_lt hj, Array.getElem?_toList]
    simp [putCells, hj, show j < cur.size by omega]
  · rw [List.getElem?_take_eq_none (by omega), List.getElem?_eq_none (by simp; omega)]
theorem swHolds {w : World} {g : Nat} {cur : Array Value} {e : TypeId} {ss : List α} (hb : w.heap[g]? = some (.cells cur e (0, 0))) (ht : cur.toList.take ss.length = ss.map enc) : Holds enc w g 0 ss.toArray := by
  intro j hj
  have hj' : j < ss.length := by simpa using hj
  refine ⟨?_, by simp [World.frozen?, hb]⟩
  have h1 : (cur.toList.take ss.length)[j]? = (ss.map enc)[j]? := by rw [ht]
  rw [List.getElem?_take_of_lt hj'] at h1
  simp only [World.cell?, hb, Nat.zero_add]
  simp only [Option.isSome_none, Bool.false_eq_true, if_false]
  rw [← Array.getElem?_toList, h1]
  simp [hj']
end
section
variable {α β : Type} [Inhabited α] [Inhabited β] (f : β → α)
theorem swMap (enc : α → Value) (w : World) (blk off m : Nat) (d : Array β) (os : Array Obj) : sortWorld (fun x => enc (f x)) w blk off m d os = sortWorld enc w blk off m (d.map f) os := by
  have hp : ∀ c, putCells (fun x => enc (f x)) off d c = putCells enc off (d.map f) c := by
    intro c
    unfold putCells
    congr 1
    funext k x
    rw [Array.size_map]
    by_cases h : off ≤ k ∧ k < off + d.size
    · rw [if_pos h, if_pos h]
      have hk : k - off < d.size := by omega
      rw [getElem!_pos (d.map f) (k - off) (by simpa using hk), getElem!_pos d (k - off) hk, Array.getElem_map]
    · rw [if_neg h, if_neg h]
  unfold sortWorld putRow
  rw [show putCells (fun x => enc (f x)) off d = putCells enc off (d.map f) from funext hp]
theorem holdsMap {enc : α → Value} {w : World} {blk off : Nat} {d : Array β} (h : Holds enc w blk off (d.map f)) : Holds (fun x => enc (f x)) w blk off d := by
  intro j hj
  have := h j (by simpa using hj)
  rw [getElem!_pos (d.map f) j (by simpa using hj), Array.getElem_map] at this
  rw [getElem!_pos d j hj]
  exact this
end
/-- A row of the call's own stays one behind the sort. -/
theorem R_sortedS {α : Type} [Inhabited α] {enc : α → Value} {h1 : ∀ x, (enc x).oneCell' = true} {e : Nat} {w : World} {b : Nat} {ok : Nat → Prop} {g n cap m : Nat} {os : Array Obj} {xs ys : List α} (hR : (Kd.scalar enc h1).R e w b ok (.slice (some ⟨g, 0, none⟩) n cap) xs) (hl : ys.length = xs.length) :
    (Kd.scalar enc h1).R e (sortWorld enc w g 0 m ys.toArray os) b ok (.slice (some ⟨g, 0, none⟩) n cap) ys := by
  obtain ⟨hn, _, _⟩ := Kd.R_reads' hR
  subst hn
  have ho := Kd.own_of_R hR
  rcases ho.2 with ⟨hv, _⟩ | ⟨g', cap', cur, hv, hb, hh, h1', h2, h3, h4⟩
  · cases hv
  injection hv with ha _ hc'
  injection ha with ha
  injection ha with ha
  subst ha hc'
  rw [Nat.mul_one] at h3
  refine Kd.R_of_own ⟨by rw [encs_length, Nat.mul_one], .inr ⟨g, cap, _, by rw [hl], hb, swBlk enc _ hh, by omega, h2, by simpa [putCells] using h3, ?_⟩⟩ hR.1
  rw [Nat.mul_one]
  exact swTake enc cur ys (by omega)
/-- The cells of a row that is not empty. -/
theorem R_holds {α : Type} [Inhabited α] {enc : α → Value} {h1 : ∀ x, (enc x).oneCell' = true} {e : Nat} {w : World} {b : Nat} {ok : Nat → Prop} {g n cap : Nat} {xs : List α} (hR : (Kd.scalar enc h1).R e w b ok (.slice (some ⟨g, 0, none⟩) n cap) xs) : Holds enc w g 0 xs.toArray := by
  obtain ⟨hn, _, _⟩ := Kd.R_reads' hR
  subst hn
  have ho := Kd.own_of_R hR
  rcases ho.2 with ⟨hv, _⟩ | ⟨g', cap', cur, hv, hb, hh, h1', h2, h3, h4⟩
  · cases hv
  injection hv with ha _ hc'
  injection ha with ha
  injection ha with ha
  subst ha hc'
  rw [Nat.mul_one] at h4
  exact swHolds enc hh h4
end Go.Proofs.YtipdleiginnjmaaGreatDoor
namespace Go.Proofs.YtipdleiginnjmaaGreatDoor
open Go.RowKit Go.Proofs.YtipdleiginnjmaaGreatDoorW.PrintWords
open Go.Sort (grow putRow putCells ahead mapBlock Holds SWO PermIn SortedIn cell?_grow cell?_putRow_other size_putRow grow_empty heap_grow_old alloc_eq_grow grow_grow)

def cmpB (a b : ByteArray) : Int := Lib.compareBytes a.data.toList b.data.toList
theorem compareBytes_lt : ∀ (x y : List UInt8), (Lib.compareBytes x y < 0 ↔ x < y) ∧ (Lib.compareBytes x y = 0 ↔ x = y)
  | [], [] => by simp [Lib.compareBytes]
  | _ :: _, [] => by simp [Lib.compareBytes]
  | [], _ :: _ => by simp [Lib.compareBytes]
  | a :: x, b :: y => by
    have ih := compareBytes_lt x y
    rw [Lib.compareBytes, List.cons_lt_cons_iff]
    by_cases h1 : a < b
    · have : a ≠ b := fun e => by subst e; exact absurd h1 (by simp)
      simp [h1, this]
    · by_cases h2 : b < a
      · have : a ≠ b := fun e => by subst e; exact absurd h2 (by simp)
        simp [h1, h2, this]
      · have e : a = b := UInt8.le_antisymm (by simpa using h2) (by simpa using h1)
        subst e
        simp [ih.1, ih.2]
theorem cmpB_lt (a b : ByteArray) : cmpB a b < 0 ↔ bl a b := (compareBytes_lt _ _).1
theorem cmpB_eq (a b : ByteArray) : cmpB a b = 0 ↔ a = b := (compareBytes_lt _ _).2.trans ⟨fun h => Go.WideShapes.bytes_inj h, fun h => by rw [h]⟩
theorem cmpI_eq (a b : Int) : cmpI a b = 0 ↔ a = b := by
  unfold cmpI
  by_cases h : a < b
  · simp [h]; omega
  · by_cases h' : b < a
    · simp [h, h']; omega
    · simp [h, h']; omega
theorem strCmp_any (a b : ByteArray) (w : World) : Calls Tryz.prog 196 #[.string a, .string b] w fun e w' => e = .returned (.int .i64 (cmpB a b)) ∧ w = w' :=
  Calls.mono (Any.strings_Compare Tryz.strCmp a b w) fun _ _ h => ⟨h.1, h.2.symm⟩

abbrev Wstr := {x : ByteArray // x.size ≤ maxLen}
instance : Inhabited Wstr := ⟨⟨ByteArray.empty, by decide⟩⟩
def untilOf (r : List (Ent Int)) (k : ByteArray) : Int := (ldIGet r k).1.2
def ordE (r : List (Ent Int)) (x y : Wstr) : Int := orI (cmpI (untilOf r x.1) (untilOf r y.1)) (cmpB x.1 y.1)
theorem untilOf_mem {r : List (Ent Int)} (h : Rising r) {p : Ent Int} (hp : p ∈ r) : untilOf r p.1 = p.2.2 := by unfold untilOf ldIGet; rw [mget_mem h.keys hp]
theorem ordE_lt (r : List (Ent Int)) (x y : Wstr) : ordE r x y < 0 ↔ untilOf r x.1 < untilOf r y.1 ∨ untilOf r x.1 = untilOf r y.1 ∧ bl x.1 y.1 := by
  unfold ordE orI
  by_cases h : cmpI (untilOf r x.1) (untilOf r y.1) = 0
  · rw [if_pos h, cmpB_lt]
    rw [cmpI_eq] at h
    constructor
    · intro h2; exact .inr ⟨h, h2⟩
    · rintro (h2 | h2)
      · omega
      · exact h2.2
  · rw [if_neg h, cmpI_lt]
    rw [cmpI_eq] at h
    constructor
    · intro h2; exact .inl h2
    · rintro (h2 | h2)
      · exact h2
      · exact absurd h2.1 h
theorem ltOf_ordE (r : List (Ent Int)) (x y : Wstr) : ltOf (ordE r) x y = decide (untilOf r x.1 < untilOf r y.1 ∨ untilOf r x.1 = untilOf r y.1 ∧ bl x.1 y.1) := decide_eq_decide.2 (ordE_lt r x y)
theorem ordE_swo (r : List (Ent Int)) : SWO (ltOf (ordE r)) where
  irrefl x := by
    rw [ltOf_ordE, decide_eq_false_iff_not]
    rintro (h | h)
    · omega
    · exact bl_irrefl _ h.2
  trans x y z h1 h2 := by
    rw [ltOf_ordE, decide_eq_true_iff] at *
    rcases h1 with h1 | h1 <;> rcases h2 with h2 | h2
    · left; omega
    · left; omega
    · left; omega
    · right; exact ⟨by omega, bl_trans h1.2 h2.2⟩
  ntrans x y z h1 h2 := by
    rw [ltOf_ordE, decide_eq_false_iff_not] at *
    rintro (h | h)
    · by_cases e1 : untilOf r x.1 < untilOf r y.1
      · exact h1 (.inl e1)
      · exact h2 (.inl (by omega))
    · by_cases e1 : untilOf r x.1 < untilOf r y.1
      · exact h1 (.inl e1)
      · by_cases e2 : untilOf r y.1 < untilOf r z.1
        · exact h2 (.inl e2)
        · have e3 : untilOf r x.1 = untilOf r y.1 := by omega
          have e4 : untilOf r y.1 = untilOf r z.1 := by omega
          rcases Classical.em (y.1 = z.1) with e | e
          · exact h1 (.inr ⟨e3, by rw [e]; exact h.2⟩)
          · rcases bl_tri e with h3 | h3
            · exact h2 (.inr ⟨e4, h3⟩)
            · exact h1 (.inr ⟨e3, bl_trans h.2 h3⟩)

set_option maxHeartbeats 800000 in
theorem sweep_cl (x y : Wstr) (W : World) (lb mb box : Nat) (room : Int) (r : List (Ent Int)) (ok : Nat → Prop) (hb : W.cell? ⟨box, 0, none⟩ = some (.pointer (some ⟨lb, 0, none⟩))) (hV : LdIV W ok lb mb room r) :
    Calls Tryz.prog 194 #[.string x.1, .string y.1, .pointer (some ⟨box, 0, none⟩)] W fun e w' => e = .returned (.int .i64 (ordE r x y)) ∧ ∃ q os', w' = grow (W.drewN q) os' := by
  obtain ⟨x, hx⟩ := x
  obtain ⟨y, hy⟩ := y
  have lk : ∀ k : ByteArray, k.size ≤ maxLen → (Instr.lookup 249 (.map (some mb)) (.string k) false).run Tryz.prog W.drew = .ok (.agg #[.int .i64 (ldIGet r k).1.1, .int .i64 (untilOf r k)]) W.drew := fun k hk => by
    have hlk := (show MapAt KLI encLI W.drew mb r from hV.map).look1 under_ldI (zero_ldI _) (a := k) hk
    unfold untilOf ldIGet
    cases hm : mget r k with
    | none => rw [hm] at hlk; exact hlk
    | some v => rw [hm] at hlk; exact hlk
  have k1 := lk x hx
  have k2 := lk y hy
  obtain ⟨t0, t1, _⟩ := hV.cells
  have hbl : box < W.heap.size := by
    unfold World.cell? at hb
    by_cases h : box < W.heap.size
    · exact h
    · rw [show W.heap[(⟨box, 0, none⟩ : Addr).block]? = none from Array.getElem?_eq_none (by show W.heap.size ≤ box; omega)] at hb; simp at hb
  clear hV lk
  show Calls Tryz.prog 194 #[.string x, .string y, .pointer (some ⟨box, 0, none⟩)] W fun e w' => e = .returned (.int .i64 (orI (cmpI (untilOf r x) (untilOf r y)) (cmpB x y))) ∧ ∃ q os', w' = grow (W.drewN q) os'
  generalize untilOf r x = tx at *
  generalize untilOf r y = ty at *
  generalize (ldIGet r x).1.1 = vx at *
  generalize (ldIGet r y).1.1 = vy at *
  have f1 : ∀ w : World, (Instr.field 254 (.agg #[.int .i64 vx, .int .i64 tx]) 1).run Tryz.prog w = .ok (.int .i64 tx) w := fun w => by kernel_rfl
  have f2 : ∀ w : World, (Instr.field 254 (.agg #[.int .i64 vy, .int .i64 ty]) 1).run Tryz.prog w = .ok (.int .i64 ty) w := fun w => by kernel_rfl
  have hnew := heap_alloc_new W.drew (.cells #[.int .i64 (cmpI tx ty), .int .i64 (cmpB x y)] 3)
  have HNEW := Lib.hid hnew
  clear hnew
  go_enter Tryz.func194, Tryz.ntmps194
  go_wp2_with fail
  go_region_held3 (fun w' => w'.cell? ⟨box, 0, none⟩ = some (.pointer (some ⟨lb, 0, none⟩)) ∧ w'.cell? ⟨lb, 1, none⟩ = some (.map (some mb))) (go_keep) (first | (go_at_call 179; refine (cmpInt_any _ _ _).mono ?_; rintro e w' ⟨rfl, rfl⟩) | (go_at_call 196; refine (strCmp_any _ _ _).mono ?_; rintro e w' ⟨rfl, rfl⟩) | (go_at_call 195; refine (orInt_any _ _ _ _ _ HNEW.out).mono ?_; rintro e w' ⟨rfl, rfl⟩))
  all_goals
    go_wp2
    go_ret
    exact ⟨rfl, 1, #[_], by rw [alloc_eq_grow]; rfl⟩

theorem wstrs {l : List ByteArray} (h : ∀ x ∈ l, x.size ≤ maxLen) : ∃ lw : List Wstr, lw.map (·.1) = l := by
  induction l with
  | nil => exact ⟨[], rfl⟩
  | cons x l ih =>
    obtain ⟨lw, e⟩ := ih (fun y hy => h y (List.mem_cons_of_mem _ hy))
    exact ⟨⟨x, h x (List.mem_cons_self ..)⟩ :: lw, by rw [List.map_cons, e]⟩
/-- A row of keys of the call's own, sorted. -/
theorem sortE_any (w : World) (ok okR : Nat → Prop) (lb mb box : Nat) (room : Int) (r : List (Ent Int)) (now : Int) (hV : LdIV w ok lb mb room r) (hbox : w.heap[box]? = some (.cells #[.pointer (some ⟨lb, 0, none⟩)] 110 (0, 0))) (b : Nat) (A : Option Addr) (n cap : Nat) (l : List ByteArray)
    (hR : Kd.string.R 9 w b okR (.slice A n cap) l) (hd : ∀ k, okR k → ¬ ok k ∧ k ≠ box) (hp : l.Perm ((r.filter (fun p => decide (p.2.2 ≤ now))).map (·.1))) (hn : n ≤ 1000000) :
    Calls Tryz.prog 193 #[.slice A n cap, .func (.func 194) #[] #[.pointer (some ⟨box, 0, none⟩)]] w fun e w' => e = .returned (.tuple #[]) ∧ Kd.string.R 9 w' b okR (.slice A n cap) ((past r now).map (·.1)) ∧ Keep okR w w' := by
  obtain ⟨hnl, _, _⟩ := Kd.R_reads' hR
  have hwf : ∀ x ∈ l, x.size ≤ maxLen := fun x hx => by
    obtain ⟨p, hp2, rfl⟩ := List.mem_map.1 (hp.mem_iff.1 hx)
    exact hV.map.oks p (List.mem_filter.1 hp2).1
  have hpl : l.Perm ((past r now).map (·.1)) := hp.trans ((past_perm r now).symm.map _)
  rcases Nat.eq_zero_or_pos n with h0 | h0
  · subst h0
    have hl0 : l = [] := List.eq_nil_of_length_eq_zero hnl.symm
    subst hl0
    have hs0 : (past r now).map (·.1) = [] := List.nil_perm.1 hpl
    rw [hs0]
    have hc := AnyF.slices_SortFunc_none { Tryz.sortStr with } A cap (.func (.func 194) #[] #[.pointer (some ⟨box, 0, none⟩)]) w
    refine Calls.mono hc ?_
    rintro e w' ⟨rfl, rfl⟩
    exact ⟨rfl, hR, Keep.refl _ _⟩
  · obtain ⟨g, cap', hv, hbg, hgl, cells, hg⟩ := Kd.R_form hR (by omega)
    injection hv with hA hx hc
    subst hA hc
    have hokg := hR.1 g rfl
    have hng := hd g hokg
    obtain ⟨lw, hlw⟩ := wstrs hwf
    subst hlw
    have eg : ∀ args w, (callFunc 194 args).run Tryz.prog w = .ok (.enter 194 args) w := enters_of Tryz.func194 (by kernel_rfl) rfl
    have hcmp : CmpLays1 Tryz.prog 194 #[.pointer (some ⟨box, 0, none⟩)] (fun x : Wstr => Value.string x.1) (ordE r) g 0 lw.toArray.size w := by
      intro m os dk _ x y
      have hk : ∀ k, k ≠ g → k < w.heap.size → (sortWorld (fun x : Wstr => Value.string x.1) w g 0 m dk os).heap[k]? = w.heap[k]? := fun k h1 h2 => swHeap _ _ _ _ _ _ _ h1 h2
      have hhb := (hk box (Ne.symm hng.2) (blk_lt hbox)).trans hbox
      refine sweep_cl x y _ lb mb box room r ok ?_ (hV.move (fun k hk' hl => hk k (fun e => hng.1 (e ▸ hk')) hl))
      have := blk_cell hhb 0
      simpa using this
    have hH : Holds (fun x : Wstr => Value.string x.1) w g 0 lw.toArray := holdsMap (fun x : Wstr => x.1) (by
      have := R_holds hR
      simpa using this)
    have hln : lw.length = n := by rw [hnl, List.length_map]
    have hc2 := Any.slices_SortFunc Tryz.sortStr (fun x : Wstr => Value.string x.1) (fun _ => rfl) (ordE r) (ordE_swo r) 194 #[.pointer (some ⟨box, 0, none⟩)] g 0 cap lw.toArray w eg hcmp hH hgl (by simp; omega)
    rw [show lw.toArray.size = n by simpa using hln] at hc2
    refine Calls.mono hc2 ?_
    rintro e w' ⟨rfl, d', m, os, ⟨hsz, _, hperm⟩, hsort, rfl⟩
    have hdl : d'.size = n := by rw [hsz]; simpa using hln
    have hp2 : (d'.toList.map (·.1)).Perm ((past r now).map (·.1)) := by
      have h1 : d'.extract 0 n = d' := by rw [← hdl]; simp
      have h2 : lw.toArray.extract 0 n = lw.toArray := by rw [← hln]; simp
      rw [h1, h2] at hperm
      exact (hperm.map _).trans hpl
    have hun : ∀ p ∈ past r now, untilOf r p.1 = p.2.2 := fun p hp' => untilOf_mem hV.row (past_mem.1 hp').1
    have hs2 : d'.toList.map (·.1) = (past r now).map (·.1) := by
      refine hp2.eq_of_pairwise (le := fun a b => ¬ (untilOf r b < untilOf r a ∨ untilOf r b = untilOf r a ∧ bl b a)) (fun a b _ _ h1 h2 => ?_) ?_ ?_
      · rcases Classical.em (a = b) with e | e
        · exact e
        · have e1 : ¬ untilOf r b < untilOf r a := fun h => h1 (.inl h)
          have e2 : ¬ untilOf r a < untilOf r b := fun h => h2 (.inl h)
          rcases bl_tri e with h3 | h3
          · exact absurd (.inr ⟨by omega, h3⟩) h2
          · exact absurd (.inr ⟨by omega, h3⟩) h1
      · rw [List.pairwise_iff_getElem]
        intro i j hi hj hij
        have hi' : i < d'.size := by simpa using hi
        have hj' : j < d'.size := by simpa using hj
        have := hsort i j (Nat.zero_le _) hij (by omega)
        rw [getElem!_pos d' i hi', getElem!_pos d' j hj', ltOf_ordE] at this
        have := of_decide_eq_false this
        simpa using this
      · rw [List.pairwise_map]
        refine (past_sorted r now).imp_of_mem (fun {a b} ha hb' hle => ?_)
        rw [hun a ha, hun b hb']
        unfold leE at hle
        rw [decide_eq_true_iff] at hle
        rintro (h | h)
        · rcases hle with hle | hle <;> omega
        · rcases hle with hle | hle
          · omega
          · exact hle.2 h.2
    rw [swMap (fun x : Wstr => x.1) Value.string, show d'.map (·.1) = ((past r now).map (·.1)).toArray from Array.toList_inj.1 (by rw [← hs2, Array.toList_map])]
    have hr2 := swGrown Value.string (w := w) (g := g) (m := m) (os := os) ((past r now).map (·.1)).toArray
    exact ⟨rfl, R_sortedS hR (by rw [hpl.length_eq]), ⟨hr2.os, hr2.tape, hr2.output, hr2.size, fun k hk hn => hr2.block k hk (fun e => hn ((Option.some.inj e) ▸ hokg))⟩⟩
end Go.Proofs.YtipdleiginnjmaaGreatDoor
namespace Go.Proofs.YtipdleiginnjmaaGreatDoor
open Go.RowKit Go.Maps Go.Proofs.YtipdleiginnjmaaGreatDoorW.PrintWords

theorem info_strI : (Tryz.prog.info? 9).map (fun i => (i.zero, i.size, i.bytes)) = some (some (.string ⟨#[]⟩), 1, 16) := by kernel_rfl
/-- The keys of what is past among some entries. -/
def pastOf (l : List (Ent Int)) (now : Int) : List ByteArray := (l.filter (fun p => decide (p.2.2 ≤ now))).map (·.1)
theorem pastOf_snoc (l : List (Ent Int)) (p : Ent Int) (now : Int) : pastOf (l ++ [p]) now = if p.2.2 ≤ now then pastOf l now ++ [p.1] else pastOf l now := by
  unfold pastOf
  rw [List.filter_append, List.map_append]
  by_cases h : p.2.2 ≤ now <;> simp [h]
theorem pastOf_len (l : List (Ent Int)) (now : Int) : (pastOf l now).length ≤ l.length := by unfold pastOf; rw [List.length_map]; exact List.length_filter_le _ _

set_option maxHeartbeats 3200000 in
set_option maxRecDepth 100000 in
theorem ldISweep_any (w : World) (ok : Nat → Prop) (lb : Nat) (room : Int) (r : List (Ent Int)) (now : Int) (h : LdIAt w ok lb room r) (hl : r.length ≤ 1000000) :
    Calls Tryz.prog 148 #[.pointer (some ⟨lb, 0, none⟩), .int .i64 now] w fun e w' => ∃ A c, e = .returned (.slice A (past r now).length c) ∧ Kd.string.R 9 w' w.heap.size (fun _ => True) (.slice A (past r now).length c) ((past r now).map (·.1)) ∧ LdIAt w' ok lb room (left r now) ∧ Keep ok w w' := by
  obtain ⟨mb, hV⟩ := h
  have hV' : LdIV w (fun k => ok k ∧ k < w.heap.size) lb mb room r := ⟨hV.hd, hV.map, ⟨hV.oklb, blk_lt hV.hd⟩, ⟨hV.okmb, hV.map.lt⟩, hV.row⟩
  have HOK := Lib.hid (show ok lb ∧ ok mb from ⟨hV.oklb, hV.okmb⟩)
  clear hV
  obtain ⟨ok', hok'⟩ : ∃ ok' : Nat → Prop, ok' = fun k => ok k ∧ k < w.heap.size := ⟨_, rfl⟩
  rw [← hok'] at hV'
  have HOK' := Lib.hid hok'
  clear hok'
  have hB1 : Below w.heap.size w (w.alloc (.cells #[.pointer (some ⟨lb, 0, none⟩)] 110)) := below_alloc (Below.refl _ _) _
  have hV1 := hV'.move (fun k _ hk => hB1.block k hk)
  have hbx := heap_alloc_new w (.cells #[.pointer (some ⟨lb, 0, none⟩)] 110)
  have hz1 : (w.alloc (.cells #[.pointer (some ⟨lb, 0, none⟩)] 110)).heap.size = w.heap.size + 1 := by simp
  have hlbw := blk_lt hV'.hd
  have hmbw := hV'.map.lt
  have HV := Lib.hid hV'
  clear hV'
  obtain ⟨t0, t1, hlt⟩ := hV1.cells
  have HM1 := Lib.hid hV1.map
  have HV1 := Lib.hid hV1
  have HB1 := Lib.hid hB1
  have HBX := Lib.hid hbx
  have HZ1 := Lib.hid hz1
  clear hV1 hB1 hbx hz1
  go_enter Tryz.func148, Tryz.ntmps148
  go_wp2_with (refine wpList_range_at (K := KLI) (enc := encLI) HM1.out (by rfl) (.tmp 13) 249 254 rfl under_ldI rfl ?_; intro w2 hR2 hB2 hz2)
  rw [HZ1.out] at hR2 ⊢
  have HR2 := Lib.hid hR2
  have HB2 := Lib.hid hB2
  have HBX2 := Lib.hid ((hB2.block w.heap.size (blk_lt HBX.out)).trans HBX.out)
  have HL2 := Lib.hid (HB1.out.trans (hB2.mono HB1.out.size))
  have hz2' : w2.heap.size = w.heap.size + 2 := by rw [hz2, HZ1.out]
  have HZ2 := Lib.hid hz2'
  clear hR2 hB2 hz2 hz2' t0 t1
  go_frame
  go_loopg [5] r.length (fun gn u5 wr => ∃ done todo, todo.length = gn ∧ (done ++ todo).Perm r ∧ RangeAt KLI encLI wr mb (w.heap.size + 1) r todo ∧ Kd.string.R 9 wr w.heap.size (fun k => k ≠ w.heap.size ∧ k ≠ w.heap.size + 1) u5 (pastOf done now) ∧ Below w.heap.size w wr ∧ wr.heap[w.heap.size]? = some (.cells #[.pointer (some ⟨lb, 0, none⟩)] 110 (0, 0)))
  case atStart => exact ⟨[], r, rfl, List.Perm.refl _, HR2.out, Kd.R_nil _ _ _ _ _, HL2.out, HBX2.out⟩
  case round =>
    obtain ⟨done, todo, hgn, hperm, hra, hR, hB, hbx⟩ := hrel
    have HP := Lib.hid hperm
    have HRA := Lib.hid hra
    have HR := Lib.hid hR
    have HB := Lib.hid hB
    have HBXr := Lib.hid hbx
    have hdl : done.length + todo.length = r.length := by rw [← List.length_append]; exact hperm.length_eq
    have hpol := pastOf_len done now
    clear hra hperm hR hB hbx
    go_wp2_with (refine wpList_next_at (K := KLI) (enc := encLI) HRA.out (by rfl) (.tmp 14) rfl rfl ?_ ?_)
    · intro htodo
      have HTD := Lib.hid htodo
      clear htodo
      have hVr := HV.out.move (fun k _ hk => HB.out.block k hk)
      have hpp : (pastOf done now).Perm ((r.filter (fun p => decide (p.2.2 ≤ now))).map (·.1)) := by
        have := HP.out
        rw [HTD.out, List.append_nil] at this
        exact (this.filter _).map _
      have hpl : (pastOf done now).length = (past r now).length := by rw [hpp.length_eq, List.length_map, (past_perm r now).length_eq]
      obtain ⟨A, c, rfl⟩ := Kd.R_slice HR.out
      have hR := HR.out
      rw [hpl] at hR ⊢
      have hpn : (past r now).length ≤ 1000000 := by omega
      have hsort := sortE_any wr ok' (fun k => w.heap.size ≤ k ∧ k ≠ w.heap.size ∧ k ≠ w.heap.size + 1) lb mb w.heap.size room r now hVr HBXr.out w.heap.size A (past r now).length c _ (Kd.R_mono (Kd.R_bound hR) (fun k hk => ⟨hk.2.1, hk.1.1, hk.1.2⟩)) (fun k hk => ⟨fun ho => by rw [HOK'.out] at ho; have := ho.2; omega, hk.2.1⟩) hpp hpn
      have HS := Lib.hid hsort
      have HVr := Lib.hid hVr
      clear hsort hVr hR hpp hpl
      go_wp2_with fail
      refine Calls.mono HS.out ?_
      rintro e w3 ⟨rfl, hR3, hK3⟩
      have HR3 := Lib.hid hR3
      have hb3 := (hK3.block w.heap.size (blk_lt HBXr.out) (fun h => h.2.1 rfl)).trans HBXr.out
      have hV3 := HVr.out.move (w' := w3) (fun k hk hl => hK3.block k hl (fun h => by rw [HOK'.out] at hk; have := hk.2; omega))
      have HB3 := Lib.hid (hK3.below HB.out HB.out.size (fun k _ hk => hk.1))
      have HBX3 := Lib.hid hb3
      have HV3 := Lib.hid hV3
      clear hR3 hK3 hb3 hV3
      obtain ⟨ks, hks⟩ : ∃ ks, ks = (past r now).map (·.1) := ⟨_, rfl⟩
      have hksl : ks.length = (past r now).length := by rw [hks, List.length_map]
      rw [← hks] at HR3
      have HKS := Lib.hid hks
      rw [← hksl] at HR3 hpn ⊢
      have HKL := Lib.hid hksl
      have HKO := Lib.hid (show ∀ k ∈ ks, k.size ≤ maxLen from fun k hk => by
        rw [hks] at hk
        obtain ⟨p, hp, rfl⟩ := List.mem_map.1 hk
        exact HV.out.map.oks p (past_mem.1 hp).1)
      clear hks hksl
      go_wp2_with fail
      go_loopw [33] (fun i wq => ∃ j : Nat, i = .int .i64 j ∧ j ≤ ks.length ∧ LdIV wq ok' lb mb room (dropKeys r (ks.take j)) ∧ Kd.string.R 9 wq w.heap.size (fun k => w.heap.size ≤ k ∧ k ≠ w.heap.size ∧ k ≠ w.heap.size + 1) (.slice A ks.length c) ks ∧ wq.heap[w.heap.size]? = some (.cells #[.pointer (some ⟨lb, 0, none⟩)] 110 (0, 0)) ∧ Keep ok' w wq) (fun i _ => ks.length - (intOf i).toNat)
      case atStart => exact ⟨0, rfl, Nat.zero_le _, by rw [List.take_zero, dropKeys_nil]; exact HV3.out, HR3.out, HBX3.out, Keep.of_below HB3.out ok'⟩
      case round =>
        obtain ⟨j, rfl, hj, hVq, hRq, hbq, hKq⟩ := hrel
        have HVq := Lib.hid hVq
        have HRq := Lib.hid hRq
        have HBq := Lib.hid hbq
        have HKq := Lib.hid hKq
        clear hVq hRq hbq hKq
        by_cases hlt2 : j < ks.length
        · obtain ⟨adk, x, rfl, hx, d0⟩ := C_nth_scalar (Kd.R_reads' HRq.out).2.2 j hlt2
          have hxk := HKO.out x (List.mem_of_getElem? hx)
          have i0 : (0 : Int) ≤ (j : Int) := by omega
          have i1 : (j : Int) < (ks.length : Int) := by omega
          have HTK := Lib.hid (show dropKeys r (ks.take (j + 1)) = mdel (dropKeys r (ks.take j)) x by rw [List.take_add_one, hx]; exact dropKeys_snoc _ _ _)
          have b0 := blk_cell HBq.out 0
          obtain ⟨q0, q1, _⟩ := HVq.out.cells
          simp only [List.getElem?_toArray, List.getElem?_cons_zero] at b0
          clear hx
          go_wp2_with (refine wpList_del_at (K := KLI) (enc := encLI) HVq.out.map (by rfl) (.tmp 40) (.tmp 41) 249 254 rfl under_ldI rfl x rfl hxk ?_; intro w6 hM6 hB6)
          have HM6 := Lib.hid hM6
          have HB6 := Lib.hid hB6
          clear hM6 hB6 b0 q0 q1
          go_wp2_with fail
          go_roundw
          case measure =>
            simp [intOf]
            omega
          case rel =>
            have hnm : mb ≠ w.heap.size := by omega
            refine ⟨j + 1, by simp, by omega, ?_, Kd.R_step HRq.out (fun k hk _ => HB6.out.2.2.2.2 k (by have := hk.1; omega)), HB6.out.blk HBq.out (Ne.symm hnm), HKq.out.trans (HB6.out.keep (S := fun k => ok' k ∨ w.heap.size ≤ k) (.inl HVq.out.okmb))⟩
            rw [HTK.out]
            exact ⟨HB6.out.blk HVq.out.hd (Ne.symm (HVq.out.map.ne_cells HVq.out.hd)), HM6.out, HVq.out.oklb, HVq.out.okmb, HVq.out.row.filter _⟩
        · have hjn : j = ks.length := by omega
          subst hjn
          go_wp2_with fail
          go_ret
          have hV := HVq.out
          rw [List.take_length, HKS.out, left_eq HV.out.row] at hV
          refine ⟨A, c, by rw [← HKL.out]; rfl, ?_, ⟨mb, hV.hd, hV.map, HOK.out.1, HOK.out.2, hV.row⟩, HKq.out.mono (fun k _ hk => by rw [HOK'.out] at hk; exact hk.1)⟩
          rw [← HKL.out, ← HKS.out]
          exact Kd.R_mono HRq.out (fun _ _ => trivial)
    · intro g v1 v2 todo' w4 hp hmem hgok hra4 hB4 hent
      have hlow4 : Below w.heap.size w w4 := hB4.below HB.out (by omega)
      have hR4 : Kd.string.R 9 w4 w.heap.size (fun k => k ≠ w.heap.size ∧ k ≠ w.heap.size + 1) u5 (pastOf done now) := Kd.R_step HR.out (fun k hk _ => hB4.2.2.2.2 k hk.2)
      have hbx4 := hB4.blk HBXr.out (show w.heap.size ≠ w.heap.size + 1 by omega)
      replace hent : (Instr.entry (.pointer (some ⟨w.heap.size + 1, 0, none⟩))).run Tryz.prog w4 = .ok (.tuple #[.string g, .agg #[.int .i64 v1, .int .i64 v2]]) w4 := hent
      replace hgok : g.size ≤ maxLen := hgok
      have hz4 := hlow4.size
      have hr4 := hra4.lt
      obtain ⟨W5, hW5⟩ : ∃ W5, W5 = w4.alloc (.cells #[.int .i64 v1, .int .i64 v2] 254) := ⟨_, rfl⟩
      have hB5 : Below w4.heap.size w4 W5 := by rw [hW5]; exact below_alloc (Below.refl _ _) _
      have HPT := Lib.hid hp
      have HL5 := Lib.hid (hlow4.trans (hB5.mono hlow4.size))
      have HRA5 := Lib.hid (hra4.move (hB5.block mb hr4.1) (hB5.block _ hr4.2.1))
      have HR5 := Lib.hid (Kd.R_below hR4 hB5)
      have HBX5 := Lib.hid ((hB5.block w.heap.size (blk_lt hbx4)).trans hbx4)
      have hz5 := HL5.out.size
      have HW5 := Lib.hid hW5
      have hz45 := hB5.size
      have hr41 := hr4.2.1
      have HSN := Lib.hid (pastOf_snoc done (g, (v1, v2)) now)
      have hpl : (pastOf done now).length ≤ 1000000 := by omega
      clear hp hlow4 hra4 hB4 hmem hR4 hbx4 hr4 hB5 hW5
      by_cases hpast : v2 ≤ now
      · have HSN' := Lib.hid (show pastOf (done ++ [(g, (v1, v2))]) now = pastOf done now ++ [g] by rw [HSN.out, if_pos hpast])
        have HSZ := Lib.hid (show w4.heap.size + 1 = W5.heap.size by rw [HW5.out]; simp)
        go_wp2_with (at_builtin; refine Kd.R_append Kd.string (w0 := w) (W := w4.alloc (.cells #[.int .i64 v1, .int .i64 v2] 254)) w.heap.size rfl (.tmp 24) (.tmp 26) 30 9 (.string ⟨#[]⟩) 16 rfl Tryz.underlying30 info_strI rfl (by decide) (by omega) u5 (pastOf done now) g [.string g] (fun k => k ≠ w.heap.size ∧ k ≠ w.heap.size + 1) (fun _ => False) rfl (by rw [← HW5.out]; exact (congrArg (fun z => Value.slice (some ⟨z, 0, none⟩) 1 1) HSZ.out)) rfl (fun _ hk => hk.elim) (by rw [← HW5.out]; exact fun k hk => by omega) (by rw [← HW5.out]; exact HR5.out) (by rw [← HW5.out]; exact HL5.out) (by rw [← HW5.out]; exact hz5) (by omega) ?_; intro v5 w5 hR6 hB6 hg6 _)
        rw [← HW5.out] at hg6
        have HR6 := Lib.hid hR6
        have HB6 := Lib.hid hB6
        have HG6 := Lib.hid hg6
        clear hR6 hB6 hg6
        go_wp2_with fail
        go_roundg todo'.length
        case measure =>
          have := HPT.out.length_eq
          rw [List.length_cons] at this
          omega
        case rel =>
          have hne : ∀ k, (k = mb ∨ k = w.heap.size ∨ k = w.heap.size + 1) → some k ≠ u5.ownBlock := fun k hk e => by
            have h1 := HR5.out.1 k e.symm
            have h2 := Kd.R_base HR5.out k e.symm
            rcases hk with rfl | rfl | rfl
            · omega
            · exact h1.1 rfl
            · exact h1.2 rfl
          refine ⟨done ++ [(g, (v1, v2))], todo', rfl, ?_, HRA5.out.move (HG6.out.block mb HRA5.out.lt.1 (hne _ (.inl rfl))) (HG6.out.block _ HRA5.out.lt.2.1 (hne _ (.inr (.inr rfl)))), ?_, HB6.out, (HG6.out.block _ (blk_lt HBX5.out) (hne _ (.inr (.inl rfl)))).trans HBX5.out⟩
          · refine List.Perm.trans ?_ HP.out
            rw [List.append_assoc]
            exact List.Perm.append_left _ HPT.out.symm
          · rw [HSN'.out]
            exact HR6.out
      · have HSN' := Lib.hid (show pastOf (done ++ [(g, (v1, v2))]) now = pastOf done now by rw [HSN.out, if_neg hpast])
        have hlq : decide (v2 ≤ now) = false := by simpa using hpast
        go_wp2_with fail
        rw [← HW5.out]
        go_roundg todo'.length
        case measure =>
          have := HPT.out.length_eq
          rw [List.length_cons] at this
          omega
        case rel =>
          refine ⟨done ++ [(g, (v1, v2))], todo', rfl, ?_, HRA5.out, ?_, HL5.out, HBX5.out⟩
          · refine List.Perm.trans ?_ HP.out
            rw [List.append_assoc]
            exact List.Perm.append_left _ HPT.out.symm
          · rw [HSN'.out]
            exact HR5.out
end Go.Proofs.YtipdleiginnjmaaGreatDoor
namespace Go.Proofs.YtipdleiginnjmaaGreatDoor
open Go.RowKit Go.Proofs.YtipdleiginnjmaaGreatDoorW.PrintWords

def ALdI (lb : Nat) (room : Int) (r : List (Ent Int)) : Asn where
  pred w S := LdIAt w S lb room r
  mono h hm := h.mono hm
  move h hm := h.move hm
section
variable {w0 w : World} {lb : Nat} {room : Int} {r : List (Ent Int)} {Ps : List Asn}
theorem Hp.ldIRow (h : Hp w0 w (ALdI lb room r :: Ps)) : Rising r := LdIAt.rising h.head
theorem Hp.ldIOk (h : Hp w0 w (ALdI lb room r :: Ps)) : ∀ p ∈ r, p.1.size ≤ maxLen := by
  obtain ⟨mb, hV⟩ := h.head
  exact fun p hp => hV.map.oks p hp
theorem Hp.ldINew (h : Hp w0 w Ps) (room : Int) : Calls Tryz.prog 152 #[.int .i64 room] w fun e w' => ∃ lb, e = .returned (.pointer (some ⟨lb, 0, none⟩)) ∧ Hp w0 w' (ALdI lb (max room 0) [] :: Ps) := by
  refine Calls.mono (ldINew_any w room) ?_
  rintro e w' ⟨lb, rfl, hL, hB⟩
  exact ⟨lb, rfl, h.fresh hB hL⟩
theorem Hp.ldIGetC (h : Hp w0 w (ALdI lb room r :: Ps)) (k : ByteArray) (hk : k.size ≤ maxLen) :
    Calls Tryz.prog 154 #[.pointer (some ⟨lb, 0, none⟩), .string k] w fun e w' => e = .returned (.tuple #[.int .i64 (ldIGet r k).1.1, .bool (ldIGet r k).2]) ∧ Hp w0 w' (ALdI lb room r :: Ps) := by
  refine Calls.mono (ldIGet_any w _ lb room r k h.head hk) ?_
  rintro e w' ⟨rfl, hB⟩
  exact ⟨rfl, h.below hB⟩
theorem Hp.ldIPut (h : Hp w0 w (ALdI lb room r :: Ps)) (k : ByteArray) (v : Int) (u : Int) (hk : k.size ≤ maxLen) (hr : r.length ≤ 1000000) :
    Calls Tryz.prog 157 #[.pointer (some ⟨lb, 0, none⟩), .string k, .int .i64 v, .int .i64 u] w fun e w' => e = .returned (.int .i64 (if mayPut room r k then 0 else 5)) ∧ Hp w0 w' (ALdI lb room (if mayPut room r k then ldPut r k (v, u) else r) :: Ps) := by
  obtain ⟨S1, h1, h2⟩ := h.use1
  refine Calls.mono (ldIPut_any w S1 lb room r k v u h1 hk hr) ?_
  rintro e w' ⟨rfl, hL, hK⟩
  exact ⟨rfl, h2 w' _ hK (hL.mono (fun k hk _ => .inl hk))⟩
end
end Go.Proofs.YtipdleiginnjmaaGreatDoor
namespace Go.Proofs.YtipdleiginnjmaaGreatDoor
open Go.RowKit Go.Proofs.YtipdleiginnjmaaGreatDoorW.PrintWords
section
variable {w0 w : World} {lb : Nat} {room : Int} {r : List (Ent Int)} {Ps : List Asn}
abbrev AStr (v : Value) (xs : List ByteArray) : Asn := ARow Kd.string 9 v xs
theorem Hp.ldILen (h : Hp w0 w (ALdI lb room r :: Ps)) : Calls Tryz.prog 155 #[.pointer (some ⟨lb, 0, none⟩)] w fun e w' => e = .returned (.int .i64 r.length) ∧ w = w' := ldILen_any w _ lb room r h.head
theorem Hp.ldICopy (h : Hp w0 w (ALdI lb room r :: Ps)) :
    Calls Tryz.prog 87 #[.pointer (some ⟨lb, 0, none⟩)] w fun e w' => ∃ cb, e = .returned (.pointer (some ⟨cb, 0, none⟩)) ∧ Hp w0 w' (ALdI cb room r :: ALdI lb room r :: Ps) := by
  refine Calls.mono (ldICopy_any w _ lb room r h.head) ?_
  rintro e w' ⟨cb, rfl, hL, hB⟩
  exact ⟨cb, rfl, h.fresh hB hL⟩
theorem Hp.ldISweep (h : Hp w0 w (ALdI lb room r :: Ps)) (now : Int) (hl : r.length ≤ 1000000) :
    Calls Tryz.prog 148 #[.pointer (some ⟨lb, 0, none⟩), .int .i64 now] w fun e w' => ∃ A c, e = .returned (.slice A (past r now).length c) ∧ Hp w0 w' (AStr (.slice A (past r now).length c) ((past r now).map (·.1)) :: ALdI lb room (left r now) :: Ps) := by
  obtain ⟨S1, h1, hS, h2⟩ := h.use
  refine Calls.mono (ldISweep_any w S1 lb room r now h1 hl) ?_
  rintro e w' ⟨A, c, rfl, hR, hL, hK⟩
  refine ⟨A, c, rfl, h2 w' [_, _] hK ?_⟩
  have hR' : (AStr (.slice A (past r now).length c) ((past r now).map (·.1))).pred w' (fun k => w.heap.size ≤ k) := Kd.R_lower (Kd.R_mono (Kd.R_bound hR) (fun k hk => hk.2.1)) (Nat.zero_le _)
  have hL' : Star [ALdI lb room (left r now)] w' (fun k => S1 k) := Star.one hL
  exact (Star.cons hR' hL' (fun k h1 h2 => by have := (hS k h2).2; omega)).mono (fun k hk _ => hk.symm)
end
end Go.Proofs.YtipdleiginnjmaaGreatDoor
