/- Put together: Things in groups, in the order in which they came: the plain law of a lane. No program in it. · A lane in memory. · lane.Lanes.Add. · slices.Clone at one element type, by its contract. · slices.DeleteFunc of one id, on a row of the call's own. · lane.Lanes.Drop. · lane.Lanes: sorted. · lane.Lanes.All: maps.Keys and slices.Collect by the shelf's contracts. · maps.Clone at one map type, by its text. · lane.Lanes.Copy. · lane.Lanes.Heads. · A lane among what a law holds: what each call leaves (what a queue calls). -/
import Derived.Test.YtipdleiginnjmaaGreatDoorH1
import Derived.Deep.RegionHeld3
import Derived.Deep.QuietTactic
import Derived.BigQuiet
import Derived.BigRegion
import Derived.Test.YtipdleiginnjmaaGreatDoorShelfDel
import Derived.Sort.OwnSortedInts
import Derived.Deep.DeepCutAuto
import Derived.StillTailTactics
import Derived.Test.YtipdleiginnjmaaGreatDoorShelfSortI
import Derived.Test.YtipdleiginnjmaaGreatDoorShelfKeysP
import Derived.Lib.SlKeysI
import Derived.Shelf.AbstractIn
import Derived.Shelf.SlMaps.Clone
import Derived.Deep.LoopGhost
set_option linter.unusedVariables false
set_option linter.unusedSimpArgs false
namespace Go.Proofs.YtipdleiginnjmaaGreatDoor

/-- A thing: its id, its group, its turn. -/
abbrev En := Int × (ByteArray × Int)
def lDrop (s : List En) (id : Int) : List En := s.filter (fun p => decide (p.1 ≠ id))
def grp (s : List En) (g : ByteArray) : List Int := (s.filter (fun p => decide (p.2.1 = g))).map (·.1)
def hasEn (s : List En) (id : Int) : Bool := s.any (fun p => decide (p.1 = id))
structure LnOk (s : List En) (turn : Int) : Prop where
  ids : (s.map (·.1)).Nodup
  row : s.Pairwise (fun a b => a.2.2 < b.2.2)
  top : ∀ p ∈ s, p.2.2 ≤ turn
theorem LnOk.nil : LnOk [] 0 := ⟨List.Pairwise.nil, List.Pairwise.nil, by simp⟩
theorem LnOk.add {s : List En} {turn : Int} (h : LnOk s turn) {id : Int} (g : ByteArray) (hn : hasEn s id = false) : LnOk (s ++ [(id, (g, turn + 1))]) (turn + 1) := by
  have hni : ∀ p ∈ s, p.1 ≠ id := by
    intro p hp e
    have := List.any_eq_false.1 hn p hp
    simp [e] at this
  refine ⟨?_, ?_, ?_⟩
  · rw [List.map_append, List.nodup_append]
    refine ⟨h.ids, by simp, fun a ha b hb e => ?_⟩
    obtain ⟨p, hp, rfl⟩ := List.mem_map.1 ha
    have : b = id := by simpa using hb
    exact hni p hp (e.trans this)
  · rw [List.pairwise_append]
    refine ⟨h.row, by simp, fun a ha b hb => ?_⟩
    have hb' : b = (id, (g, turn + 1)) := by simpa using hb
    subst hb'
    have := h.top a ha
    show a.2.2 < turn + 1
    omega
  · intro p hp
    rcases List.mem_append.1 hp with hp | hp
    · have := h.top p hp; omega
    · have hp' : p = (id, (g, turn + 1)) := by simpa using hp
      subst hp'
      exact Int.le_refl _
theorem LnOk.drop {s : List En} {turn : Int} (h : LnOk s turn) (id : Int) : LnOk (lDrop s id) turn :=
  ⟨(List.Sublist.map _ List.filter_sublist).nodup h.ids, h.row.filter _, fun p hp => h.top p (List.mem_filter.1 hp).1⟩
theorem LnOk.mono {s : List En} {turn turn' : Int} (h : LnOk s turn) (ht : turn ≤ turn') : LnOk s turn' := ⟨h.ids, h.row, fun p hp => by have := h.top p hp; omega⟩
theorem lDrop_len (s : List En) (id : Int) : (lDrop s id).length ≤ s.length := List.length_filter_le _ _
theorem lDrop_none {s : List En} {id : Int} (h : hasEn s id = false) : lDrop s id = s := by
  unfold lDrop
  rw [List.filter_eq_self]
  intro p hp
  have := List.any_eq_false.1 h p hp
  simpa using this

theorem grp_nil (g : ByteArray) : grp [] g = [] := rfl
theorem grp_cons (p : En) (s : List En) (g : ByteArray) : grp (p :: s) g = if p.2.1 = g then p.1 :: grp s g else grp s g := by
  unfold grp
  by_cases h : p.2.1 = g <;> simp [h]
theorem grp_snoc (s : List En) (p : En) (g : ByteArray) : grp (s ++ [p]) g = if p.2.1 = g then grp s g ++ [p.1] else grp s g := by
  unfold grp
  by_cases h : p.2.1 = g <;> simp [h]
theorem grp_drop (s : List En) (id : Int) (g : ByteArray) : grp (lDrop s id) g = (grp s g).filter (fun x => decide (x ≠ id)) := by
  unfold grp lDrop
  rw [List.filter_map, List.filter_filter, List.filter_filter]
  congr 1
  apply List.filter_congr
  intro p _
  simp [Bool.and_comm]
theorem grp_mem {s : List En} {g : ByteArray} {x : Int} : x ∈ grp s g ↔ ∃ t, (x, (g, t)) ∈ s := by
  unfold grp
  constructor
  · intro h
    obtain ⟨p, hp, rfl⟩ := List.mem_map.1 h
    obtain ⟨h1, h2⟩ := List.mem_filter.1 hp
    have h2 : p.2.1 = g := by simpa using h2
    exact ⟨p.2.2, by rw [← h2]; exact h1⟩
  · rintro ⟨t, ht⟩
    exact List.mem_map.2 ⟨_, List.mem_filter.2 ⟨ht, by simp⟩, rfl⟩
theorem grp_len (s : List En) (g : ByteArray) : (grp s g).length ≤ s.length := by
  unfold grp
  rw [List.length_map]
  exact List.length_filter_le _ _
theorem grp_nodup {s : List En} (h : (s.map (·.1)).Nodup) (g : ByteArray) : (grp s g).Nodup :=
  (List.Sublist.map _ List.filter_sublist).nodup h
/-- The entry of an id. -/
theorem en_get {s : List En} (h : (s.map (·.1)).Nodup) {id : Int} {v : ByteArray × Int} (hm : (id, v) ∈ s) : mget s id = some v := mget_mem h hm
theorem en_has (s : List En) (id : Int) : hasEn s id = (mget s id).isSome := by
  unfold hasEn mget
  rw [Option.isSome_map, List.any_eq, Bool.eq_iff_iff]
  simp [List.find?_isSome]
/-- The first of each group. -/
def lHeads (s : List En) : List En := s.filter (fun p => decide ((grp s p.2.1).head? = some p.1))
theorem lHeads_mem {s : List En} (h : (s.map (·.1)).Nodup) {p : En} : p ∈ lHeads s ↔ p ∈ s ∧ (grp s p.2.1).head? = some p.1 := by
  unfold lHeads
  rw [List.mem_filter, decide_eq_true_iff]
end Go.Proofs.YtipdleiginnjmaaGreatDoor
namespace Go.Proofs.YtipdleiginnjmaaGreatDoor
open Go.RowKit Go.Proofs.YtipdleiginnjmaaGreatDoorW.PrintWords

theorem info_int : (Tryz.prog.info? 3).map (fun i => (i.zero, i.size, i.bytes)) = some (some (.int .i64 0), 1, 8) := by kernel_rfl
noncomputable def KI : KeyKd Tryz.prog 3 Int := intKey Tryz.underlying3
noncomputable def KG : KeyKd Tryz.prog 9 ByteArray := strKey Tryz.underlying9
theorem under_at : Tryz.prog.underlying 233 = some (.map 3 235) := Tryz.underlying233
theorem under_groups : Tryz.prog.underlying 236 = some (.map 9 33) := Tryz.underlying236
theorem zero_place (w : World) : (zeroValue 235).run Tryz.prog w = .ok (.agg #[.string ByteArray.empty, .int .i64 0]) w := by kernel_rfl
theorem zero_row (w : World) : (zeroValue 33).run Tryz.prog w = .ok (.slice none 0 0) w := by kernel_rfl
def encP (p : ByteArray × Int) : Value := .agg #[.string p.1, .int .i64 p.2]

structure LnV (w : World) (ok : Nat → Prop) (lb ma mg : Nat) (turn : Int) (s : List En) (gs : List (ByteArray × Value)) : Prop where
  hd : w.heap[lb]? = some (.cells #[.int .i64 turn, .map (some ma), .map (some mg)] 238 (0, 0))
  at_ : MapAt KI encP w ma s
  gm : MapAt KG id w mg gs
  row : ∀ g v, mget gs g = some v → (Kd.int .i64).R 3 w 0 (fun k => ok k ∧ k ≠ lb ∧ k ≠ ma ∧ k ≠ mg) v (grp s g) ∧ grp s g ≠ []
  gone : ∀ g, mget gs g = none → grp s g = []
  apart : ∀ g g' v v', g ≠ g' → mget gs g = some v → mget gs g' = some v' → v.ownBlock ≠ v'.ownBlock
  oklb : ok lb
  okma : ok ma
  okmg : ok mg
  ne : ma ≠ mg
section
variable {w w' : World} {ok ok' : Nat → Prop} {lb ma mg : Nat} {turn : Int} {s : List En} {gs : List (ByteArray × Value)}
theorem LnV.lt (h : LnV w ok lb ma mg turn s gs) : lb < w.heap.size ∧ ma < w.heap.size ∧ mg < w.heap.size := ⟨blk_lt h.hd, h.at_.lt, h.gm.lt⟩
theorem LnV.nes (h : LnV w ok lb ma mg turn s gs) : ma ≠ lb ∧ mg ≠ lb := ⟨h.at_.ne_cells h.hd, h.gm.ne_cells h.hd⟩
theorem LnV.move (h : LnV w ok lb ma mg turn s gs) (hm : ∀ k, ok k → k < w.heap.size → w'.heap[k]? = w.heap[k]?) : LnV w' ok lb ma mg turn s gs :=
  ⟨(hm lb h.oklb h.lt.1).trans h.hd, h.at_.move (hm ma h.okma h.lt.2.1), h.gm.move (hm mg h.okmg h.lt.2.2), fun g v hv => ⟨Kd.R_step (h.row g v hv).1 (fun k hk hl => hm k hk.1 hl), (h.row g v hv).2⟩, h.gone, h.apart, h.oklb, h.okma, h.okmg, h.ne⟩
theorem LnV.mono (h : LnV w ok lb ma mg turn s gs) (hm : ∀ k, ok k → k < w.heap.size → ok' k) : LnV w ok' lb ma mg turn s gs :=
  ⟨h.hd, h.at_, h.gm, fun g v hv => ⟨Kd.R_mono (Kd.R_bound (h.row g v hv).1) (fun k hk => ⟨hm k hk.1.1 hk.2.2.1, hk.1.2⟩), (h.row g v hv).2⟩, h.gone, h.apart, hm lb h.oklb h.lt.1, hm ma h.okma h.lt.2.1, hm mg h.okmg h.lt.2.2, h.ne⟩
theorem LnV.cells (h : LnV w ok lb ma mg turn s gs) : w.cell? ⟨lb, 0, none⟩ = some (.int .i64 turn) ∧ w.cell? ⟨lb, 1, none⟩ = some (.map (some ma)) ∧ w.cell? ⟨lb, 2, none⟩ = some (.map (some mg)) ∧ lb < w.heap.size := by
  have t0 := blk_cell h.hd 0
  have t1 := blk_cell h.hd 1
  have t2 := blk_cell h.hd 2
  exact ⟨t0, t1, t2, blk_lt h.hd⟩
/-- The group of an entry is a key that may be. -/
theorem LnV.gok (h : LnV w ok lb ma mg turn s gs) {id : Int} {g : ByteArray} {t : Int} (hm : (id, (g, t)) ∈ s) : ∃ v, mget gs g = some v ∧ g.size ≤ maxLen := by
  cases hv : mget gs g with
  | none =>
    have h0 := h.gone g hv
    have h1 := grp_mem.2 ⟨t, hm⟩
    rw [h0] at h1
    simp at h1
  | some v =>
    refine ⟨v, rfl, ?_⟩
    unfold mget at hv
    obtain ⟨p, hp, rfl⟩ := Option.map_eq_some_iff.1 hv
    have hpm := List.mem_of_find?_eq_some hp
    have hpg : p.1 = g := by simpa using List.find?_some hp
    have := h.gm.oks p hpm
    rw [hpg] at this
    exact this
end
/-- A lane (its block lb) that holds s; at most T came so far. -/
def LnAt (w : World) (ok : Nat → Prop) (lb : Nat) (s : List En) (T : Nat) : Prop := ∃ ma mg turn gs, LnV w ok lb ma mg turn s gs ∧ LnOk s turn ∧ 0 ≤ turn ∧ turn ≤ (T : Int) ∧ gs.length ≤ T ∧ s.length ≤ T
section
variable {w w' : World} {ok ok' S : Nat → Prop} {lb T : Nat} {s : List En}
theorem LnAt.mono (h : LnAt w ok lb s T) (hm : ∀ k, ok k → k < w.heap.size → ok' k) : LnAt w ok' lb s T := by
  obtain ⟨ma, mg, turn, gs, h1, h2⟩ := h
  exact ⟨ma, mg, turn, gs, h1.mono hm, h2⟩
theorem LnAt.move (h : LnAt w ok lb s T) (hm : ∀ k, ok k → k < w.heap.size → w'.heap[k]? = w.heap[k]?) : LnAt w' ok lb s T := by
  obtain ⟨ma, mg, turn, gs, h1, h2⟩ := h
  exact ⟨ma, mg, turn, gs, h1.move hm, h2⟩
theorem LnAt.below (h : LnAt w ok lb s T) (hb : Below w.heap.size w w') : LnAt w' ok lb s T := h.move (fun k _ hk => hb.block k hk)
theorem LnAt.kept (h : LnAt w ok lb s T) (hk : Keep S w w') (hd : ∀ k, ok k → k < w.heap.size → ¬ S k) : LnAt w' ok lb s T := h.move (fun k ho hl => hk.block k hl (hd k ho hl))
theorem LnAt.ids (h : LnAt w ok lb s T) : (s.map (·.1)).Nodup := by
  obtain ⟨ma, mg, turn, gs, h1, h2, _⟩ := h
  exact h2.ids
end

set_option maxHeartbeats 400000 in
theorem laneNew_any (w : World) : Calls Tryz.prog 150 #[] w fun e w' => e = .returned (.pointer (some ⟨w.heap.size + 2, 0, none⟩)) ∧ LnAt w' (fun k => w.heap.size ≤ k) (w.heap.size + 2) [] 0 ∧ Below w.heap.size w w' := by
  have hmm := @run_makeMap Tryz.prog
  go_enter Tryz.func150, Tryz.ntmps150
  go_wp2
  go_ret
  have hB1 : Below w.heap.size w (w.alloc (.map #[] 0)) := below_alloc (Below.refl _ _) _
  have hB2 : Below w.heap.size w ((w.alloc (.map #[] 0)).alloc (.map #[] 0)) := below_alloc hB1 _
  have hB3 : Below w.heap.size w (((w.alloc (.map #[] 0)).alloc (.map #[] 0)).alloc (.cells #[.int .i64 0, .map (some w.heap.size), .map (some (w.heap.size + 1))] 238)) := below_alloc hB2 _
  refine ⟨rfl, ⟨w.heap.size, w.heap.size + 1, 0, [], ⟨?_, ?_, ?_, ?_, ?_, ?_, ?_, ?_, ?_, ?_⟩, LnOk.nil, Int.le_refl _, Int.le_refl _, Nat.le_refl _, Nat.le_refl _⟩, hB3⟩
  · have := heap_alloc_new ((w.alloc (.map #[] 0)).alloc (.map #[] 0)) (.cells #[.int .i64 0, .map (some w.heap.size), .map (some (w.heap.size + 1))] 238)
    simpa using this
  · exact ((MapAt.made KI encP w).below (below_alloc (Below.refl _ _) _)).below (below_alloc (Below.refl _ _) _)
  · have := (MapAt.made KG (id : Value → Value) (w.alloc (.map #[] 0))).below (below_alloc (Below.refl _ _) (.cells #[.int .i64 0, .map (some w.heap.size), .map (some (w.heap.size + 1))] 238))
    simpa using this
  · intro g v hv; simp [mget] at hv
  · intro g _; rfl
  · intro g g' v v' _ hv; simp [mget] at hv
  · omega
  · exact Nat.le_refl _
  · omega
  · omega

end Go.Proofs.YtipdleiginnjmaaGreatDoor
namespace Go.Proofs.YtipdleiginnjmaaGreatDoor
open Go.RowKit Go.Proofs.YtipdleiginnjmaaGreatDoorW.PrintWords

set_option maxHeartbeats 800000 in
set_option maxRecDepth 100000 in
theorem laneAdd_old (w : World) (ok : Nat → Prop) (lb ma mg : Nat) (turn : Int) (s : List En) (gs : List (ByteArray × Value)) (g : ByteArray) (id : Int) (h : LnV w ok lb ma mg turn s gs) (hw : (Lit.int .i64 id).wf = true) {v : ByteArray × Int} (hm : mget s id = some v) :
    Calls Tryz.prog 156 #[.pointer (some ⟨lb, 0, none⟩), .string g, .int .i64 id] w fun e w' => e = .returned (.bool false) ∧ Below w.heap.size w w' := by
  have hlk := h.at_.look under_at (zero_place w) (a := id) hw
  rw [hm] at hlk
  have hlk : (Instr.lookup 233 (.map (some ma)) (.int .i64 id) true).run Tryz.prog w = .ok (.tuple #[.agg #[.string v.1, .int .i64 v.2], .bool true]) w := hlk
  obtain ⟨t0, t1, t2, hlt⟩ := h.cells
  clear h hm
  go_enter Tryz.func156, Tryz.ntmps156
  go_wp2_with fail
  go_ret
  exact ⟨rfl, below_alloc (Below.refl _ _) _⟩

theorem mput_none {α β : Type} [DecidableEq α] {ps : List (α × β)} {a : α} (x : β) (h : mget ps a = none) : (mput ps a x).Perm (ps ++ [(a, x)]) := by
  have e : mdel ps a = ps := by
    unfold mdel
    rw [List.filter_eq_self]
    intro p hp
    have : (ps.find? (fun p => decide (p.1 = a))) = none := by
      unfold mget at h
      simpa using h
    have := List.find?_eq_none.1 this p hp
    simpa using this
  unfold mput
  rw [e]
  exact (List.perm_append_singleton _ _).symm
theorem LnV.turned {w w' : World} {ok : Nat → Prop} {lb ma mg : Nat} {turn turn' : Int} {s : List En} {gs : List (ByteArray × Value)} (h : LnV w ok lb ma mg turn s gs) (hl : w'.heap[lb]? = some (.cells #[.int .i64 turn', .map (some ma), .map (some mg)] 238 (0, 0)))
    (hm : ∀ k, k ≠ lb → k < w.heap.size → w'.heap[k]? = w.heap[k]?) : LnV w' ok lb ma mg turn' s gs :=
  ⟨hl, h.at_.move (hm ma h.nes.1 h.lt.2.1), h.gm.move (hm mg h.nes.2 h.lt.2.2), fun g v hv => ⟨Kd.R_step (h.row g v hv).1 (fun k hk hl => hm k hk.2.1 hl), (h.row g v hv).2⟩, h.gone, h.apart, h.oklb, h.okma, h.okmg, h.ne⟩
/-- The row of a group, be it known or not. -/
def rowOf (gs : List (ByteArray × Value)) (g : ByteArray) : Value := (mget gs g).getD (.slice none 0 0)
theorem LnV.rowR {w : World} {ok : Nat → Prop} {lb ma mg : Nat} {turn : Int} {s : List En} {gs : List (ByteArray × Value)} (h : LnV w ok lb ma mg turn s gs) (g : ByteArray) : (Kd.int .i64).R 3 w 0 (fun k => ok k ∧ k ≠ lb ∧ k ≠ ma ∧ k ≠ mg) (rowOf gs g) (grp s g) := by
  unfold rowOf
  cases hv : mget gs g with
  | none => rw [h.gone g hv]; exact Kd.R_nil _ _ _ _ _
  | some v => exact (h.row g v hv).1
theorem LnV.rowLook {w : World} {ok : Nat → Prop} {lb ma mg : Nat} {turn : Int} {s : List En} {gs : List (ByteArray × Value)} (h : LnV w ok lb ma mg turn s gs) {g : ByteArray} (hg : g.size ≤ maxLen) :
    (Instr.lookup 236 (.map (some mg)) (.string g) false).run Tryz.prog w = .ok (rowOf gs g) w := by
  have := h.gm.look1 under_groups (zero_row w) (a := g) hg
  rw [Option.map_id_fun] at this
  exact this

theorem row_own {w : World} {e b : Nat} {ok : Nat → Prop} {v : Value} {xs : List Int} (h : (Kd.int .i64).R e w b ok v xs) (hne : xs ≠ []) : ∃ k, v.ownBlock = some k ∧ k < w.heap.size ∧ ok k := by
  obtain ⟨k, cap, hv, _, hk, _⟩ := Kd.R_form h (List.length_pos_iff.2 hne)
  have : v.ownBlock = some k := by rw [hv]; rfl
  exact ⟨k, this, hk, h.1 k this⟩
theorem LnV.added {w w6 : World} {ok : Nat → Prop} {lb ma mg : Nat} {turn turn' : Int} {s : List En} {gs : List (ByteArray × Value)} (h : LnV w ok lb ma mg turn s gs) {g : ByteArray} {id : Int} {v5 : Value}
    (hm6 : ∀ k, k < w.heap.size → k ≠ lb → k ≠ ma → k ≠ mg → some k ≠ (rowOf gs g).ownBlock → w6.heap[k]? = w.heap[k]?)
    (hd6 : w6.heap[lb]? = some (.cells #[.int .i64 turn', .map (some ma), .map (some mg)] 238 (0, 0))) (ha6 : MapAt KI encP w6 ma (s ++ [(id, (g, turn'))])) (hg6 : MapAt KG _root_.id w6 mg (mput gs g v5))
    (hr6 : (Kd.int .i64).R 3 w6 0 (fun k => (ok k ∨ w.heap.size ≤ k) ∧ k ≠ lb ∧ k ≠ ma ∧ k ≠ mg) v5 (grp s g ++ [id])) (hat : v5.ownBlock = (rowOf gs g).ownBlock ∨ ∃ b, v5.ownBlock = some b ∧ w.heap.size ≤ b) :
    LnV w6 (fun k => ok k ∨ w.heap.size ≤ k) lb ma mg turn' (s ++ [(id, (g, turn'))]) (mput gs g v5) := by
  have hap : ∀ g' v', g' ≠ g → mget gs g' = some v' → v'.ownBlock ≠ (rowOf gs g).ownBlock := by
    intro g' v' hne hv
    obtain ⟨k, hk, _, _⟩ := row_own (h.row g' v' hv).1 (h.row g' v' hv).2
    unfold rowOf
    cases hg : mget gs g with
    | none => rw [hk]; simp [Value.ownBlock]
    | some v => exact h.apart g' g v' v hne hv hg
  have hap5 : ∀ g' v', g' ≠ g → mget gs g' = some v' → v'.ownBlock ≠ v5.ownBlock := by
    intro g' v' hne hv
    rcases hat with hat | ⟨b, hb, hle⟩
    · rw [hat]; exact hap g' v' hne hv
    · obtain ⟨k, hk, hlt, _⟩ := row_own (h.row g' v' hv).1 (h.row g' v' hv).2
      rw [hk, hb]
      intro e
      have := Option.some.inj e
      omega
  refine ⟨hd6, ha6, hg6, fun g' v hv => ?_, fun g' hv => ?_, fun g1 g2 v1 v2 hne h1 h2 => ?_, .inl h.oklb, .inl h.okma, .inl h.okmg, h.ne⟩
  · rw [grp_snoc]
    by_cases e : g' = g
    · subst e
      rw [mget_put_same] at hv
      obtain rfl := Option.some.inj hv
      rw [if_pos rfl]
      exact ⟨hr6, by simp⟩
    · rw [mget_put_other gs v5 e] at hv
      rw [if_neg (fun e' => e e'.symm)]
      obtain ⟨hR, hne⟩ := h.row g' v hv
      have hR2 : (Kd.int .i64).R 3 w 0 (fun k => (ok k ∧ k ≠ lb ∧ k ≠ ma ∧ k ≠ mg) ∧ some k ≠ (rowOf gs g).ownBlock) v (grp s g') := Kd.R_of_own (Kd.own_of_R hR) (fun k hk => ⟨hR.1 k hk, fun e2 => hap g' v e hv (hk.trans e2)⟩)
      exact ⟨Kd.R_mono (Kd.R_step hR2 (fun k hk hl => hm6 k hl hk.1.2.1 hk.1.2.2.1 hk.1.2.2.2 hk.2)) (fun k hk => ⟨.inl hk.1.1, hk.1.2⟩), hne⟩
  · rw [grp_snoc]
    by_cases e : g' = g
    · subst e
      rw [mget_put_same] at hv
      cases hv
    · rw [mget_put_other gs v5 e] at hv
      rw [if_neg (fun e' => e e'.symm)]
      exact h.gone g' hv
  · by_cases e1 : g1 = g
    · subst e1
      rw [mget_put_same] at h1
      obtain rfl := Option.some.inj h1
      rw [mget_put_other gs v5 (Ne.symm hne)] at h2
      exact Ne.symm (hap5 g2 v2 (Ne.symm hne) h2)
    · rw [mget_put_other gs v5 e1] at h1
      by_cases e2 : g2 = g
      · subst e2
        rw [mget_put_same] at h2
        obtain rfl := Option.some.inj h2
        exact hap5 g1 v1 e1 h1
      · rw [mget_put_other gs v5 e2] at h2
        exact h.apart g1 g2 v1 v2 hne h1 h2

set_option maxHeartbeats 1600000 in
set_option maxRecDepth 100000 in
theorem laneAdd_new (w : World) (ok : Nat → Prop) (lb ma mg : Nat) (turn : Int) (s : List En) (gs : List (ByteArray × Value)) (g : ByteArray) (id : Int) (h : LnV w ok lb ma mg turn s gs) (hw : (Lit.int .i64 id).wf = true) (hg : g.size ≤ maxLen) (hm : mget s id = none) (ht0 : 0 ≤ turn) (ht : turn ≤ 1000000) (hs : s.length ≤ 1000000) (hgl : gs.length ≤ 1000000) :
    Calls Tryz.prog 156 #[.pointer (some ⟨lb, 0, none⟩), .string g, .int .i64 id] w fun e w' => e = .returned (.bool true) ∧ (∃ gs', LnV w' (fun k => ok k ∨ w.heap.size ≤ k) lb ma mg (turn + 1) (s ++ [(id, (g, turn + 1))]) gs' ∧ gs'.length ≤ gs.length + 1) ∧ Keep ok w w' := by
  have hlk := h.at_.look under_at (zero_place w) (a := id) hw
  rw [hm] at hlk
  have hlk : (Instr.lookup 233 (.map (some ma)) (.int .i64 id) true).run Tryz.prog w = .ok (.tuple #[.agg #[.string ByteArray.empty, .int .i64 0], .bool false]) w := hlk
  obtain ⟨t0, t1, t2, hlt⟩ := h.cells
  have H := Lib.hid h
  have hfz : w.frozen? ⟨lb, 0, none⟩ = false := by have := h.hd; simp [World.frozen?, this]
  clear h
  have HM := Lib.hid hm
  clear hm
  go_enter Tryz.func156, Tryz.ntmps156
  go_wp2_with fail
  obtain ⟨W2, hW2⟩ : ∃ W2, W2 = (w.setCell ⟨lb, 0, none⟩ (.int .i64 (turn + 1))).alloc (.cells #[.string ByteArray.empty, .int .i64 0] 235) := ⟨_, rfl⟩
  rw [← hW2]
  have hz1 : (w.setCell ⟨lb, 0, none⟩ (.int .i64 (turn + 1))).heap.size = w.heap.size := by simp [World.setCell]
  have hB2 : Below w.heap.size (w.setCell ⟨lb, 0, none⟩ (.int .i64 (turn + 1))) W2 := by
    rw [hW2]
    exact (Below.refl _ _).alloc (by rw [hz1]; exact Nat.le_refl _) _
  have hm2 : ∀ k, k ≠ lb → k < w.heap.size → W2.heap[k]? = w.heap[k]? := fun k h1 h2 => (hB2.block k h2).trans (Below.heap_setCell w ⟨lb, 0, none⟩ _ k h1)
  have hl2 : W2.heap[lb]? = some (.cells #[.int .i64 (turn + 1), .map (some ma), .map (some mg)] 238 (0, 0)) := by
    rw [hB2.block lb hlt]
    have := H.out.hd
    simp [World.setCell, this, Array.getElem?_modify]
  have hV2 := H.out.turned hl2 hm2
  have hz2 : w.heap.size ≤ W2.heap.size := by rw [hW2]; simp [World.setCell]
  have hK2 : Keep ok w W2 := ⟨hB2.os, hB2.tape, hB2.output, hz2, fun k hk hn => hm2 k (fun e => hn (by rw [e]; exact H.out.oklb)) hk⟩
  have HV2 := Lib.hid hV2
  have HK2 := Lib.hid hK2
  obtain ⟨q0, q1, q2, _⟩ := hV2.cells
  clear hW2 hz1 hB2 hl2 hV2 hK2 t0 t1 t2 hlk hfz
  go_region_held3 (fun w' => w'.cell? ⟨lb, 0, none⟩ = some (.int .i64 (turn + 1)) ∧ w'.cell? ⟨lb, 1, none⟩ = some (.map (some ma))) (first | exact ⟨q0, q1⟩ | exact ⟨r0, r1⟩) (first | (refine upon_put (K := KI) (enc := encP) (show MapAt KI encP W2.drew ma s from HV2.out.at_) under_at (by simp [maxLen]; omega) id (g, turn + 1) rfl rfl hw ?_; intro w3 hM3 hB3; have r0 := hB3.cell (show W2.drew.cell? ⟨lb, 0, none⟩ = _ from q0) (Ne.symm HV2.out.nes.1); have r1 := hB3.cell (show W2.drew.cell? ⟨lb, 1, none⟩ = _ from q1) (Ne.symm HV2.out.nes.1)))
  have hhd3 := hB3.blk HV2.out.hd (Ne.symm HV2.out.nes.1)
  have hS3 : MapAt KI encP w3 ma (s ++ [(id, (g, turn + 1))]) := hM3.perm (mput_none _ HM.out)
  have hG3 : MapAt KG _root_.id w3 mg gs := HV2.out.gm.move (hB3.2.2.2.2 mg (Ne.symm HV2.out.ne))
  have hrows : ∀ g' v, mget gs g' = some v → (Kd.int .i64).R 3 w3 0 (fun k => ok k ∧ k ≠ lb ∧ k ≠ ma ∧ k ≠ mg) v (grp s g') := fun g' v hv => Kd.R_step (HV2.out.row g' v hv).1 (fun k hk _ => hB3.2.2.2.2 k hk.2.2.1)
  have hR3 : (Kd.int .i64).R 3 w3 0 (fun k => (ok k ∨ w.heap.size ≤ k) ∧ k ≠ lb ∧ k ≠ ma ∧ k ≠ mg) (rowOf gs g) (grp s g) := Kd.R_mono (Kd.R_step (HV2.out.rowR g) (fun k hk _ => hB3.2.2.2.2 k hk.2.2.1)) (fun k hk => ⟨.inl hk.1, hk.2⟩)
  have hK3 : Keep ok w w3 := HK2.out.trans ((hB3.keep (S := fun k => ok k ∨ w.heap.size ≤ k) (.inl HV2.out.okma)).undrew)
  have hz3 := hK3.size
  have hk23 : ∀ k, k < w.heap.size → k ≠ lb → k ≠ ma → w3.heap[k]? = w.heap[k]? := fun k hk h1 h2 => (hB3.2.2.2.2 k h2).trans (hm2 k h1 hk)
  have hlw := H.out.lt
  have hBa : Below w3.heap.size w3 ((w3.alloc (.cells #[.int .i64 id] 3)).drew) := (below_alloc (Below.refl _ _) _).drew
  have hlook : ∀ W, W.heap[mg]? = w3.heap[mg]? → (Instr.lookup 236 (.map (some mg)) (.string g) false).run Tryz.prog W = .ok (rowOf gs g) W := fun W hW => by
    have := (hG3.move hW).look1 under_groups (zero_row W) (a := g) hg
    rw [Option.map_id_fun] at this
    exact this
  have hl1 := hlook w3.drew rfl
  have hl2 := hlook ((w3.alloc (.cells #[.int .i64 id] 3)).drew) (hBa.block mg hG3.lt)
  have hgn := grp_len s g
  have hcid : (Kd.int .i64).C ((w3.alloc (.cells #[.int .i64 id] 3)).drew) (some ⟨w3.heap.size, 0, none⟩) 1 [id] :=
    C_block (w := (w3.alloc (.cells #[.int .i64 id] 3)).drew) (g := w3.heap.size) (t := 3) (cs := #[.int .i64 id]) (heap_alloc_new w3 _) [id] rfl (by simp)
  have hnl : ∀ k, (k = lb ∨ k = ma ∨ k = mg) → k < w3.heap.size ∧ some k ≠ (rowOf gs g).ownBlock := fun k hk => ⟨by rcases hk with rfl | rfl | rfl <;> omega, fun e => by have := (hR3.1 k e.symm).2; rcases hk with rfl | rfl | rfl <;> simp at this⟩
  have HNL := Lib.hid hnl
  obtain ⟨q0, q1, q2⟩ : w3.cell? ⟨lb, 0, none⟩ = some (.int .i64 (turn + 1)) ∧ w3.cell? ⟨lb, 1, none⟩ = some (.map (some ma)) ∧ w3.cell? ⟨lb, 2, none⟩ = some (.map (some mg)) := ⟨blk_cell hhd3 0, blk_cell hhd3 1, blk_cell hhd3 2⟩
  have HR3 := Lib.hid hR3
  have HG3 := Lib.hid hG3
  have HCI := Lib.hid hcid
  have HBA := Lib.hid hBa
  clear hM3 hlook hR3 hcid hBa r0 r1 hnl
  go_wp2_with fail
  go_region_held3 (fun w' => w'.cell? ⟨lb, 2, none⟩ = some (.map (some mg))) (first | exact q2 | exact r2 | go_keep) (first | (refine Kd.R_append_rows_step (Kd.int .i64) (w0 := (w3.alloc (.cells #[.int .i64 id] 3)).drew) 0 (by rfl) (.tmp 47) (.tmp 49) 33 3 (.int .i64 0) 8 rfl Tryz.underlying33 info_int rfl (by decide) (by omega) (rowOf gs g) (grp s g) [id] (some ⟨w3.heap.size, 0, none⟩) 1 1 (fun k => (ok k ∨ w.heap.size ≤ k) ∧ k ≠ lb ∧ k ≠ ma ∧ k ≠ mg) (fun _ => False) rfl rfl (by exact Kd.R_below HR3.out HBA.out) (by exact HCI.out) (fun _ _ h => h) (fun _ h => h.elim) (fun k hk => ⟨.inr (Nat.le_trans hz3 (Nat.le_trans HBA.out.size hk)), by have := HBA.out.size; omega, by have := HBA.out.size; omega, by have := HBA.out.size; omega⟩) (Below.refl _ _) (Nat.zero_le _) (by omega) ?_; intro v5 w5 hR5 _ hg5 hat5; have hk5 : ∀ k, (k = lb ∨ k = ma ∨ k = mg) → w5.heap[k]? = w3.heap[k]? := (fun k hk => (hg5.block k (Nat.lt_of_lt_of_le (HNL.out k hk).1 HBA.out.size) (HNL.out k hk).2).trans (HBA.out.block k (HNL.out k hk).1)); have r2 : w5.cell? ⟨lb, 2, none⟩ = some (.map (some mg)) := (World.cell?_of_block (a := ⟨lb, 2, none⟩) (hk5 lb (.inl rfl))).trans q2) | (refine upon_put (K := KG) (enc := _root_.id) (show MapAt KG _root_.id w5 mg gs from HG3.out.move (hk5 mg (.inr (.inr rfl)))) under_groups (by simp [maxLen]; omega) g v5 rfl rfl hg ?_; intro w6 hM6 hB6; have r2 : w6.cell? ⟨lb, 2, none⟩ = some (.map (some mg)) := hB6.cell r2 (Ne.symm HV2.out.nes.2)))
  all_goals
    go_wp2_with fail
    go_ret
    have hm56 : ∀ k, k < w.heap.size → k ≠ lb → k ≠ ma → k ≠ mg → some k ≠ (rowOf gs g).ownBlock → w6.heap[k]? = w.heap[k]? := fun k hk h1 h2 h3 h4 => by
      have hk3 : k < w3.heap.size := Nat.lt_of_lt_of_le hk hz3
      exact (hB6.2.2.2.2 k h3).trans (((hg5.block k (Nat.lt_of_lt_of_le hk3 HBA.out.size) h4).trans (HBA.out.block k hk3)).trans (hk23 k hk h1 h2))
    have hglen : (mput gs g v5).length ≤ gs.length + 1 := by rw [mput_length HG3.out.nodup]; split <;> omega
    have hsz5 : w3.heap.size ≤ w5.heap.size := Nat.le_trans HBA.out.size hg5.size
    refine ⟨rfl, ⟨mput gs g v5, And.intro (H.out.added hm56 (hB6.blk ((hk5 lb (.inl rfl)).trans hhd3) (Ne.symm HV2.out.nes.2)) (hS3.move ((hB6.2.2.2.2 ma HV2.out.ne).trans (hk5 ma (.inr (.inl rfl))))) hM6 (Kd.R_step hR5 (fun k hk _ => hB6.2.2.2.2 k hk.2.2.2)) ?_) hglen⟩, ?_⟩
    · rcases hat5 with hat5 | ⟨b, hb, hle⟩
      · exact .inl hat5
      · exact .inr ⟨b, hb, Nat.le_trans hz3 (Nat.le_trans HBA.out.size hle)⟩
    · refine ⟨hB6.1.trans (hg5.os.trans (HBA.out.os.trans hK3.os)), hB6.2.1.trans (hg5.tape.trans (HBA.out.tape.trans hK3.tape)), hB6.2.2.1.trans (hg5.output.trans (HBA.out.output.trans hK3.output)), by rw [hB6.2.2.2.1]; omega, fun k hk hn => ?_⟩
      refine hm56 k hk (fun e => hn (e ▸ H.out.oklb)) (fun e => hn (e ▸ H.out.okma)) (fun e => hn (e ▸ H.out.okmg)) (fun e => ?_)
      rcases (HR3.out.1 k e.symm).1 with h1 | h1
      · exact hn h1
      · omega

def lAdd (s : List En) (g : ByteArray) (id t : Int) : List En := if hasEn s id then s else s ++ [(id, (g, t))]
theorem laneAdd_any (w : World) (ok : Nat → Prop) (lb T : Nat) (s : List En) (g : ByteArray) (id : Int) (h : LnAt w ok lb s T) (hw : (Lit.int .i64 id).wf = true) (hg : g.size ≤ maxLen) (hT : T ≤ 1000000) :
    Calls Tryz.prog 156 #[.pointer (some ⟨lb, 0, none⟩), .string g, .int .i64 id] w fun e w' => e = .returned (.bool (!hasEn s id)) ∧ (∃ t, LnAt w' (fun k => ok k ∨ w.heap.size ≤ k) lb (lAdd s g id t) (T + 1)) ∧ Keep ok w w' := by
  obtain ⟨ma, mg, turn, gs, hV, hO, h0, h1, h2, h3⟩ := h
  have hh := en_has s id
  cases hm : mget s id with
  | some v =>
    rw [hm] at hh
    have hh : hasEn s id = true := hh
    refine Calls.mono (laneAdd_old w ok lb ma mg turn s gs g id hV hw hm) ?_
    rintro e w' ⟨rfl, hB⟩
    refine ⟨by rw [hh]; rfl, ⟨0, ?_⟩, Keep.of_below hB ok⟩
    unfold lAdd
    rw [if_pos hh]
    exact LnAt.mono (LnAt.below ⟨ma, mg, turn, gs, hV, hO, h0, by omega, by omega, by omega⟩ hB) (fun k hk _ => .inl hk)
  | none =>
    rw [hm] at hh
    have hh : hasEn s id = false := hh
    refine Calls.mono (laneAdd_new w ok lb ma mg turn s gs g id hV hw hg hm h0 (by omega) (by omega) (by omega)) ?_
    rintro e w' ⟨rfl, ⟨gs', hV', hgl⟩, hK⟩
    refine ⟨by rw [hh]; rfl, ⟨turn + 1, ?_⟩, hK⟩
    unfold lAdd
    rw [if_neg (by rw [hh]; decide)]
    exact ⟨ma, mg, turn + 1, gs', hV', hO.add g hh, by omega, by omega, by omega, by simp; omega⟩
end Go.Proofs.YtipdleiginnjmaaGreatDoor
namespace Go.Proofs.YtipdleiginnjmaaGreatDoor
open Go.RowKit Go.Proofs.YtipdleiginnjmaaGreatDoorW.PrintWords

set_option maxHeartbeats 400000 in
theorem clone_int (A : Option Addr) (c : Nat) (xs : List Int) (w : World) (hC : (Kd.int .i64).C w A xs.length xs) (hc : xs.length ≤ c) (hb : xs.length * 8 ≤ 140737488355328) :
    Calls Tryz.prog 71 #[.slice A xs.length c] w fun e w' => ∃ A' c', e = .returned (.slice A' xs.length c') ∧ Kd.R (Kd.int .i64) 3 w' w.heap.size (fun _ => True) (.slice A' xs.length c') xs ∧ Below w.heap.size w w' := by
  have hnil := fun (w : World) (a : Option Addr) (n c : Nat) => Lib.run_eql_slice_nil (P := Tryz.prog) w 33 3 a n c 0 0 Tryz.underlying33
  cases A with
  | none =>
    have h0 : xs = [] := by
      by_cases h : 0 < xs.length
      · obtain ⟨ad, h1, _⟩ := hC.2.2 h; cases h1
      · exact List.eq_nil_of_length_eq_zero (by omega)
    subst h0
    go_enter Tryz.func71, Tryz.ntmps71
    go_wp2
    go_ret
    exact ⟨_, _, rfl, Kd.R_nil _ _ _ _ _, Below.refl _ _⟩
  | some ad =>
    go_enter Tryz.func71, Tryz.ntmps71
    go_wp2_with (at_builtin; refine Kd.R_append_rows (Kd.int .i64) (w0 := w) w.heap.size rfl (.tmp 5) (.tmp 6) 33 3 (.int .i64 0) 8 rfl Tryz.underlying33 info_int rfl (by decide) (by omega) (.slice (some ⟨w.heap.size, 0, none⟩) 0 0) [] xs (some ad) xs.length c (fun _ => True) (fun _ => False) rfl rfl ?a1 ?a2 (fun _ _ h => h) (fun _ h => h.elim) (fun _ _ => trivial) (below_alloc (Below.refl _ _) _) ?a3 ?a4 ?a5)
    case a1 => exact R_empty _ _ _ _ _ (Nat.le_refl _) trivial
    case a2 => exact Kd.C_alloc hC _
    case a3 => simp
    case a4 => simpa using hb
    case a5 =>
      intro v1 w1 h1 h2 _ _
      obtain ⟨A', c', hv⟩ := Kd.R_slice h1
      have HV := Lib.hid hv
      clear hv
      go_wp2
      go_ret
      exact ⟨A', c', by rw [HV.out]; simp, by rw [HV.out] at h1; simpa using h1, h2⟩

end Go.Proofs.YtipdleiginnjmaaGreatDoor
namespace Go.Proofs.YtipdleiginnjmaaGreatDoor
open Go.RowKit Go.Proofs.YtipdleiginnjmaaGreatDoorW.PrintWords
open Go.Sort (grow putRow putCells ahead mapBlock Holds cell?_grow cell?_putRow_other size_putRow grow_empty)

theorem drop_gives (id x : Int) (B : Nat) (W : World) (hc : W.cell? ⟨B, 0, none⟩ = some (.int .i64 id)) :
    FnGives Tryz.prog 217 #[.pointer (some ⟨B, 0, none⟩)] #[.int .i64 x] (.bool (decide (x = id))) W := by
  show Calls Tryz.prog 217 #[.int .i64 x, .pointer (some ⟨B, 0, none⟩)] W _
  go_enter Tryz.func217, Tryz.ntmps217
  go_wp2
  all_goals (go_ret; exact ⟨by rw [show (x == id) = decide (x = id) from by by_cases h : x = id <;> simp [h]]; rfl, 0, rfl⟩)
theorem drop_pred (id : Int) (B : Nat) (w : World) (hB : B < w.heap.size) (hc : w.cell? ⟨B, 0, none⟩ = some (.int .i64 id)) :
    PredAt Tryz.prog 217 #[.pointer (some ⟨B, 0, none⟩)] (Value.int .i64) (fun x => decide (x = id)) w :=
  fun W x hb => drop_gives id x B W ((hb.cell (p := ⟨B, 0, none⟩) hB).trans hc)
theorem drop_over (id : Int) (B blk off size : Nat) (w : World) (hB : B < w.heap.size) (hne : B ≠ blk) (hc : w.cell? ⟨B, 0, none⟩ = some (.int .i64 id)) :
    PredOver Tryz.prog 217 #[.pointer (some ⟨B, 0, none⟩)] (Value.int .i64) (fun x => decide (x = id)) blk off size w :=
  fun n os dk x _ => drop_gives id x B _ (by
    unfold sortWorld
    rw [cell?_grow _ _ _ (by show B < (putRow _ _ _ _ _).heap.size; rw [size_putRow]; exact hB), cell?_putRow_other _ _ blk off _ _ (Or.inl hne)]
    exact hc)
theorem delFunc_id (w : World) (b : Nat) (ok : Nat → Prop) (g n cap B : Nat) (xs : List Int) (id : Int) (hR : (Kd.int .i64).R 3 w b ok (.slice (some ⟨g, 0, none⟩) n cap) xs) (hB : B < w.heap.size) (hne : B ≠ g) (hc : w.cell? ⟨B, 0, none⟩ = some (.int .i64 id)) :
    Calls Tryz.prog 216 #[.slice (some ⟨g, 0, none⟩) n cap, .func (.func 217) #[] #[.pointer (some ⟨B, 0, none⟩)]] w fun e w' => e = .returned (.slice (some ⟨g, 0, none⟩) (xs.filter (fun x => decide (x ≠ id))).length cap) ∧ (Kd.int .i64).R 3 w' b ok (.slice (some ⟨g, 0, none⟩) (xs.filter (fun x => decide (x ≠ id))).length cap) (xs.filter (fun x => decide (x ≠ id))) ∧ Keep (fun k => k = g) w w' := by
  obtain ⟨hn, hcap, hC⟩ := Kd.R_reads' hR
  have hm := Kd.C_max hC
  subst hn
  have ho := Kd.own_of_R hR
  rcases ho.2 with ⟨hv, _⟩ | ⟨g', cap', cur, hv, hb, hh, h1, h2, h3, h4⟩
  · cases hv
  injection hv with ha _ hc'
  injection ha with ha
  injection ha with ha
  subst ha hc'
  rw [Nat.mul_one] at h3 h4
  have h4 : cur.toList.take xs.length = xs.map (Value.int .i64) := h4
  have eg : ∀ args w, (callFunc 217 args).run Tryz.prog w = .ok (.enter 217 args) w := enters_of Tryz.func217 (by kernel_rfl) rfl
  have hcon := AnyE.slices_DeleteFunc Tryz.delInt (Value.int .i64) (fun _ => rfl) (fun x => decide (x = id)) 217 #[.pointer (some ⟨B, 0, none⟩)] eg 0 Tryz.zeroValue3 g 0 cap xs.toArray w
    (drop_pred id B w hB hc) (drop_over id B g 0 xs.toArray.size w hB hne hc) (Go.holds_of_blockI hh h4) (by simpa using hm) (by simpa using hcap)
  have hfe : (xs.toArray.toList.filter fun x => !decide (x = id)) = xs.filter (fun x => decide (x ≠ id)) := by
    apply List.filter_congr
    intro x _
    simp
  rw [hfe] at hcon
  have hfl := List.length_filter_le (fun x => decide (x ≠ id)) xs
  generalize hys : xs.filter (fun x => decide (x ≠ id)) = ys at *
  rw [show xs.toArray.size = xs.length by simp] at hcon
  refine Calls.mono hcon ?_
  rintro e w' ⟨rfl, q, rfl⟩
  have hd : (ys ++ List.replicate (xs.length - ys.length) 0).length = xs.length := by simp; omega
  have hheap := Go.heap_sortedI (w := w) (g := g) (n := q) (os := #[]) (ys ++ List.replicate (xs.length - ys.length) (0 : Int)).toArray hh
  have hgb := Go.grownBy_sortedI (w := w) (g := g) (n := q) (os := #[]) (ys ++ List.replicate (xs.length - ys.length) (0 : Int)).toArray
  rw [grow_empty] at hheap hgb
  have htk := Go.take_putCellsI cur (ys ++ List.replicate (xs.length - ys.length) (0 : Int)) (by rw [hd]; omega)
  refine ⟨rfl, Kd.R_of_own ⟨by rw [encs_length, Nat.mul_one], .inr ⟨g, cap, _, rfl, hb, hheap, by omega, h2, by simpa [putCells] using h3, ?_⟩⟩ hR.1, ⟨hgb.os, hgb.tape, hgb.output, hgb.size, fun k hk hn => hgb.block k hk (fun e => hn (Option.some.inj e))⟩⟩
  rw [Nat.mul_one]
  have := congrArg (List.take ys.length) htk
  rw [List.take_take, hd, Nat.min_eq_left hfl] at this
  rw [this, List.map_append, List.take_append_of_le_length (by simp), List.take_of_length_le (by simp)]
  rfl
end Go.Proofs.YtipdleiginnjmaaGreatDoor
namespace Go.Proofs.YtipdleiginnjmaaGreatDoor
set_option maxRecDepth 100000
open Go.RowKit Go.Proofs.YtipdleiginnjmaaGreatDoorW.PrintWords

set_option maxHeartbeats 1600000 in
theorem laneDrop_none (w : World) (ok : Nat → Prop) (lb ma mg : Nat) (turn : Int) (s : List En) (gs : List (ByteArray × Value)) (id : Int) (h : LnV w ok lb ma mg turn s gs) (hw : (Lit.int .i64 id).wf = true) (hm : mget s id = none) :
    Calls Tryz.prog 192 #[.pointer (some ⟨lb, 0, none⟩), .int .i64 id] w fun e w' => e = .returned (.bool false) ∧ Below w.heap.size w w' := by
  have hlt := h.lt
  have hB1 : Below w.heap.size w (w.alloc (.cells #[.int .i64 id] 3)) := below_alloc (Below.refl _ _) _
  have hV1 := h.move (fun k _ hk => hB1.block k hk)
  have hb1 := heap_alloc_new w (.cells #[.int .i64 id] 3)
  have HB1 := Lib.hid hB1
  go_enter Tryz.func192, Tryz.ntmps192
  go_wp2_with fail
  generalize w.alloc (.cells #[.int .i64 id] 3) = w1 at *
  have hlk := (show MapAt KI encP w1.drew ma s from hV1.at_).look under_at (zero_place _) (a := id) hw
  rw [hm] at hlk
  have hlk : (Instr.lookup 233 (.map (some ma)) (.int .i64 id) true).run Tryz.prog w1.drew = .ok (.tuple #[.agg #[.string ⟨#[]⟩, .int .i64 0], .bool false]) w1.drew := hlk
  obtain ⟨t0, t1, t2, hlt1⟩ := hV1.cells
  have b0 := blk_cell hb1 0
  simp only [List.getElem?_toArray, List.getElem?_cons_zero] at b0
  have HAT := Lib.hid hV1.at_
  have HM := Lib.hid hm
  clear hV1 hb1 hB1 h hm
  have hB2 : Below w1.heap.size w1 (w1.alloc (.cells #[.string ⟨#[]⟩, .int .i64 0] 235)) := below_alloc (Below.refl _ _) _
  have hlk2 : (Instr.lookup 233 (.map (some ma)) (.int .i64 id) true).run Tryz.prog (w1.alloc (.cells #[.string ⟨#[]⟩, .int .i64 0] 235)).drew = .ok (.tuple #[.agg #[.string ⟨#[]⟩, .int .i64 0], .bool false]) (w1.alloc (.cells #[.string ⟨#[]⟩, .int .i64 0] 235)).drew := by
    have := (show MapAt KI encP (w1.alloc (.cells #[.string ⟨#[]⟩, .int .i64 0] 235)).drew ma s from HAT.out.move (hB2.block ma HAT.out.lt)).look under_at (zero_place _) (a := id) hw
    rw [HM.out] at this
    exact this
  have t1' := pw_cell_below hB2 t1
  have b0' := pw_cell_below hB2 b0
  clear hB2
  go_region_held3 (fun w' => w'.cell? ⟨lb, 1, none⟩ = some (.map (some ma)) ∧ w'.cell? ⟨w.heap.size, 0, none⟩ = some (.int .i64 id)) (first | exact ⟨t1, b0⟩ | exact ⟨t1', b0'⟩ | go_keep) (first | fail)
  all_goals
    go_wp2
    go_ret
    exact ⟨rfl, HB1.out.trans ((below_alloc (Below.refl _ _) _).drew.mono HB1.out.size)⟩

theorem grp_other {s : List En} (hn : (s.map (·.1)).Nodup) {id : Int} {g g' : ByteArray} {t : Int} (hm : (id, (g, t)) ∈ s) (hne : g' ≠ g) : grp (lDrop s id) g' = grp s g' := by
  rw [grp_drop, List.filter_eq_self]
  intro x hx
  have : x ≠ id := by
    rintro rfl
    obtain ⟨t', ht'⟩ := grp_mem.1 hx
    have h1 := en_get hn hm
    rw [en_get hn ht'] at h1
    have := Option.some.inj h1
    exact hne (congrArg Prod.fst this)
  simpa using this
theorem LnV.dropped {w w7 : World} {ok : Nat → Prop} {lb ma mg gb n cap : Nat} {turn : Int} {s : List En} {gs gs' : List (ByteArray × Value)} (h : LnV w ok lb ma mg turn s gs) (hn : (s.map (·.1)).Nodup) {id t : Int} {g : ByteArray} (hm : (id, (g, t)) ∈ s)
    (hm7 : ∀ k, k < w.heap.size → k ≠ lb → k ≠ ma → k ≠ mg → k ≠ gb → w7.heap[k]? = w.heap[k]?)
    (hd7 : w7.heap[lb]? = some (.cells #[.int .i64 turn, .map (some ma), .map (some mg)] 238 (0, 0))) (ha7 : MapAt KI encP w7 ma (mdel s id)) (hg7 : MapAt KG _root_.id w7 mg gs')
    (hv : mget gs g = some (.slice (some ⟨gb, 0, none⟩) n cap)) (hget : ∀ g', g' ≠ g → mget gs' g' = mget gs g')
    (hgg : (mget gs' g = none ∧ grp (lDrop s id) g = []) ∨ ∃ v', mget gs' g = some v' ∧ (Kd.int .i64).R 3 w7 0 (fun k => ok k ∧ k ≠ lb ∧ k ≠ ma ∧ k ≠ mg) v' (grp (lDrop s id) g) ∧ grp (lDrop s id) g ≠ [] ∧ v'.ownBlock = some gb) :
    LnV w7 ok lb ma mg turn (lDrop s id) gs' := by
  have hgb : (Value.slice (some ⟨gb, 0, none⟩) n cap).ownBlock = some gb := rfl
  have hap : ∀ g' v', g' ≠ g → mget gs g' = some v' → v'.ownBlock ≠ some gb := fun g' v' hne hv' => by
    rw [← hgb]
    exact h.apart g' g v' _ hne hv' hv
  refine ⟨hd7, ha7, hg7, fun g' v hv' => ?_, fun g' hv' => ?_, fun g1 g2 v1 v2 hne h1 h2 => ?_, h.oklb, h.okma, h.okmg, h.ne⟩
  · by_cases e : g' = g
    · subst e
      rcases hgg with ⟨h1, _⟩ | ⟨v', h1, h2, h3, _⟩
      · rw [h1] at hv'; cases hv'
      · rw [h1] at hv'
        obtain rfl := Option.some.inj hv'
        exact ⟨h2, h3⟩
    · rw [hget g' e] at hv'
      rw [grp_other hn hm e]
      obtain ⟨hR, hne⟩ := h.row g' v hv'
      have hR2 : (Kd.int .i64).R 3 w 0 (fun k => (ok k ∧ k ≠ lb ∧ k ≠ ma ∧ k ≠ mg) ∧ k ≠ gb) v (grp s g') := Kd.R_of_own (Kd.own_of_R hR) (fun k hk => ⟨hR.1 k hk, fun e2 => hap g' v e hv' (e2 ▸ hk)⟩)
      exact ⟨Kd.R_mono (Kd.R_step hR2 (fun k hk hl => hm7 k hl hk.1.2.1 hk.1.2.2.1 hk.1.2.2.2 hk.2)) (fun k hk => hk.1), hne⟩
  · by_cases e : g' = g
    · subst e
      rcases hgg with ⟨_, h2⟩ | ⟨v', h1, _⟩
      · exact h2
      · rw [h1] at hv'; cases hv'
    · rw [hget g' e] at hv'
      rw [grp_other hn hm e]
      exact h.gone g' hv'
  · by_cases e1 : g1 = g
    · subst e1
      rw [hget g2 (Ne.symm hne)] at h2
      rcases hgg with ⟨h0, _⟩ | ⟨v', h0, _, _, h4⟩
      · rw [h0] at h1; cases h1
      · rw [h0] at h1
        obtain rfl := Option.some.inj h1
        rw [h4]
        exact Ne.symm (hap g2 v2 (Ne.symm hne) h2)
    · rw [hget g1 e1] at h1
      by_cases e2 : g2 = g
      · subst e2
        rcases hgg with ⟨h0, _⟩ | ⟨v', h0, _, _, h4⟩
        · rw [h0] at h2; cases h2
        · rw [h0] at h2
          obtain rfl := Option.some.inj h2
          rw [h4]
          exact hap g1 v1 e1 h1
      · rw [hget g2 e2] at h2
        exact h.apart g1 g2 v1 v2 hne h1 h2

set_option maxHeartbeats 3200000 in
theorem laneDrop_some (w : World) (ok : Nat → Prop) (lb ma mg : Nat) (turn : Int) (s : List En) (gs : List (ByteArray × Value)) (id : Int) (g : ByteArray) (t : Int) (h : LnV w ok lb ma mg turn s gs) (hO : LnOk s turn) (hw : (Lit.int .i64 id).wf = true) (hm : (id, (g, t)) ∈ s) (hgl : gs.length ≤ 1000000) :
    Calls Tryz.prog 192 #[.pointer (some ⟨lb, 0, none⟩), .int .i64 id] w fun e w' => e = .returned (.bool true) ∧ (∃ gs', LnV w' ok lb ma mg turn (lDrop s id) gs' ∧ gs'.length ≤ gs.length) ∧ Keep ok w w' := by
  have hlt := h.lt
  have hget := en_get hO.ids hm
  obtain ⟨v, hv, hgs⟩ := h.gok hm
  have hB1 : Below w.heap.size w (w.alloc (.cells #[.int .i64 id] 3)) := below_alloc (Below.refl _ _) _
  have hV1 := h.move (fun k _ hk => hB1.block k hk)
  have hb1 := heap_alloc_new w (.cells #[.int .i64 id] 3)
  have hz1 : (w.alloc (.cells #[.int .i64 id] 3)).heap.size = w.heap.size + 1 := by simp
  have H := Lib.hid h
  go_enter Tryz.func192, Tryz.ntmps192
  go_upto_region 1 with (fail)
  generalize w.alloc (.cells #[.int .i64 id] 3) = w1 at *
  have HM := Lib.hid hget
  have hlk : ∀ W, W.heap[ma]? = w1.heap[ma]? → (Instr.lookup 233 (.map (some ma)) (.int .i64 id) true).run Tryz.prog W = .ok (.tuple #[.agg #[.string g, .int .i64 t], .bool true]) W := fun W hW => by
    have := (hV1.at_.move hW).look under_at (zero_place _) (a := id) hw
    rw [HM.out] at this
    exact this
  have hlk1 := hlk w1.drew rfl
  obtain ⟨t0, t1, t2, hlt1⟩ := hV1.cells
  have b0 := blk_cell hb1 0
  simp only [List.getElem?_toArray, List.getElem?_cons_zero] at b0
  have hB2 : Below w1.heap.size w1 (w1.alloc (.cells #[.string ⟨#[]⟩, .int .i64 0] 235)) := below_alloc (Below.refl _ _) _
  have hlk2 := hlk (w1.alloc (.cells #[.string ⟨#[]⟩, .int .i64 0] 235)).drew (hB2.block ma hV1.at_.lt)
  have t1' := pw_cell_below hB2 t1
  have b0' := pw_cell_below hB2 b0
  have HV1 := Lib.hid hV1
  have HB1 := Lib.hid hB1
  have HBX := Lib.hid hb1
  have HZ1 := Lib.hid hz1
  clear hB2 hlk hV1 hb1 hB1 h hget
  go_cut [5, 6] (fun p b wx => p = .pointer (some ⟨w.heap.size + 1, 0, none⟩) ∧ b = .bool true ∧ wx = (w1.alloc (.cells #[.string g, .int .i64 t] 235)).drew)
  case first =>
    go_region_held3 (fun w' => w'.cell? ⟨lb, 1, none⟩ = some (.map (some ma)) ∧ w'.cell? ⟨w.heap.size, 0, none⟩ = some (.int .i64 id)) (first | exact ⟨t1, b0⟩ | exact ⟨t1', b0'⟩ | go_keep) (first | fail)
    all_goals
      go_wp2_with fail
      go_meet
      case rel => exact ⟨rfl, rfl, rfl⟩
  case rest =>
    obtain ⟨rfl, rfl, hW2⟩ := hcut
    have hP2 : Below w1.heap.size w1 wc := by rw [hW2]; exact (below_alloc (Below.refl _ _) _).drew
    have hbp := heap_alloc_new w1 (.cells #[.string g, .int .i64 t] 235)
    have hbp2 : wc.heap[w.heap.size + 1]? = some (.cells #[.string g, .int .i64 t] 235 (0, 0)) := by rw [hW2, ← HZ1.out]; exact hbp
    have hV2 := HV1.out.move (fun k _ hk => hP2.block k hk)
    have hbx2 := (hP2.block w.heap.size (blk_lt HBX.out)).trans HBX.out
    have HP2 := Lib.hid (HB1.out.trans (hP2.mono HB1.out.size))
    have HV2 := Lib.hid hV2
    have HBX2 := Lib.hid hbx2
    have HBP2 := Lib.hid hbp2
    clear hW2 hbp hbp2 hbx2 hP2 t0 t1 t2 t1' b0 b0' hlk1 hlk2
    obtain ⟨gb, cap, hvf, _, hgb, _⟩ := Kd.R_form (H.out.row g v hv).1 (List.length_pos_iff.2 (H.out.row g v hv).2)
    subst hvf
    have hgok := (HV2.out.row g _ hv).1.1 gb rfl
    have HV := Lib.hid hv
    clear hv
    go_upto_region 4 with (fail)
    obtain ⟨p0, p1, p2, plt⟩ := hV2.cells
    have x0 := blk_cell HBX2.out 0
    simp only [List.getElem?_toArray, List.getElem?_cons_zero] at x0
    clear hV2
    go_still_tail 5, (by kernel_rfl)
    change wpList _ _ _ _ _ wc.drew
    refine wpList_del_at (K := KI) (enc := encP) (show MapAt KI encP wc.drew ma s from HV2.out.at_) (by rfl) (.tmp 22) (.tmp 23) 233 235 rfl under_at rfl id rfl hw ?_
    intro w3 hM3 hB3
    have hR3 : (Kd.int .i64).R 3 w3 0 (fun k => ok k ∧ k ≠ lb ∧ k ≠ ma ∧ k ≠ mg) (.slice (some ⟨gb, 0, none⟩) (grp s g).length cap) (grp s g) := Kd.R_step (HV2.out.row g _ HV.out).1 (fun k hk _ => hB3.2.2.2.2 k hk.2.2.1)
    have hG3 : MapAt KG _root_.id w3 mg gs := HV2.out.gm.move (hB3.2.2.2.2 mg (Ne.symm HV2.out.ne))
    have hD3 := hB3.blk HV2.out.hd (Ne.symm HV2.out.nes.1)
    have hX3 := hB3.blk HBX2.out (show w.heap.size ≠ ma by omega)
    have hP3 := hB3.blk HBP2.out (show w.heap.size + 1 ≠ ma by omega)
    have hk23 : ∀ k, k < w.heap.size → k ≠ ma → w3.heap[k]? = w.heap[k]? := fun k hk h2 => (hB3.2.2.2.2 k h2).trans (HP2.out.block k hk)
    have hz3 : w.heap.size ≤ w3.heap.size := by have h1 := hB3.2.2.2.1; have h2 := HP2.out.size; have h3 : wc.drew.heap.size = wc.heap.size := rfl; omega
    have hos3 : w3.os = w.os ∧ w3.tape = w.tape ∧ w3.output = w.output := ⟨hB3.1.trans HP2.out.os, hB3.2.1.trans HP2.out.tape, hB3.2.2.1.trans HP2.out.output⟩
    have hl3 : (Instr.lookup 236 (.map (some mg)) (.string g) false).run Tryz.prog w3.drew = .ok (.slice (some ⟨gb, 0, none⟩) (grp s g).length cap) w3.drew := by
      have := (show MapAt KG _root_.id w3.drew mg gs from hG3).look1 under_groups (zero_row _) (a := g) hgs
      rw [HV.out] at this
      exact this
    have u0 := blk_cell hX3 0
    have u1 := blk_cell hP3 0
    have u2 := blk_cell hD3 2
    simp only [List.getElem?_toArray, List.getElem?_cons_zero, List.getElem?_cons_succ] at u0 u1 u2
    have hgb3 : gb < w3.heap.size := by omega
    have hne3 : w.heap.size ≠ gb := by omega
    have HR3 := Lib.hid hR3
    have HG3 := Lib.hid hG3
    have HD3 := Lib.hid hD3
    have HX3 := Lib.hid hX3
    have HP3 := Lib.hid hP3
    have HK23 := Lib.hid hk23
    have HO3 := Lib.hid hos3
    have HM3 := Lib.hid hM3
    have hdel : Calls Tryz.prog 216 #[.slice (some ⟨gb, 0, none⟩) (grp s g).length cap, .func (.func 217) #[] #[.pointer (some ⟨w.heap.size, 0, none⟩)]] w3.drew _ := delFunc_id w3.drew 0 _ gb (grp s g).length cap w.heap.size (grp s g) id (show (Kd.int .i64).R 3 w3.drew 0 _ _ _ from Kd.R_below HR3.out (Below.refl _ _).drew) (by exact blk_lt hX3) hne3 u0
    have hys : grp (lDrop s id) g = (grp s g).filter (fun x => decide (x ≠ id)) := grp_drop s id g
    rw [← hys] at hdel
    have HYL := Lib.hid (grp_len (lDrop s id) g)
    generalize grp (lDrop s id) g = ys at *
    have HYS := Lib.hid hys
    have HDEL := Lib.hid hdel
    clear hR3 hG3 hD3 hX3 hP3 hk23 hos3 hM3 hdel hys p0 p1 p2 x0 hB3
    go_wp2_with fail
    go_upto_region 5 with (fail)
    go_cut [7] (fun r wx => r = .slice (some ⟨gb, 0, none⟩) ys.length cap ∧ (Kd.int .i64).R 3 wx 0 (fun k => ok k ∧ k ≠ lb ∧ k ≠ ma ∧ k ≠ mg) (.slice (some ⟨gb, 0, none⟩) ys.length cap) ys ∧ Keep (fun k => k = gb) w3 wx)
    case first =>
      go_region_held3 (fun w' => w'.cell? ⟨lb, 2, none⟩ = some (.map (some mg)) ∧ w'.cell? ⟨w.heap.size + 1, 0, none⟩ = some (.string g)) (first | exact ⟨u2, u1⟩ | exact ⟨r2, r1⟩ | go_keep) (first | (go_at_call 216; refine Calls.mono HDEL.out ?_; rintro e w5 ⟨rfl, hR5, hK5⟩; have r2 : w5.cell? ⟨lb, 2, none⟩ = some (.map (some mg)) := (World.cell?_of_block (a := ⟨lb, 2, none⟩) (hK5.block lb (blk_lt HD3.out) (Ne.symm hgok.2.1))).trans u2; have r1 : w5.cell? ⟨w.heap.size + 1, 0, none⟩ = some (.string g) := (World.cell?_of_block (a := ⟨w.heap.size + 1, 0, none⟩) (hK5.block (w.heap.size + 1) (blk_lt HP3.out) (by omega))).trans u1))
      all_goals
        have HR5 := Lib.hid hR5
        have HK5 := Lib.hid hK5
        clear hR5 hK5
        go_wp2_with fail
        go_meet
        case rel => exact ⟨rfl, HR5.out, HK5.out.undrew⟩
    case rest =>
      obtain ⟨rfl, hR5, hK5⟩ := hcut
      have hD5 := (hK5.block lb (blk_lt HD3.out) (Ne.symm hgok.2.1)).trans HD3.out
      have hP5 := (hK5.block (w.heap.size + 1) (blk_lt HP3.out) (by omega)).trans HP3.out
      have hG5 : MapAt KG _root_.id wc mg gs := HG3.out.move (hK5.block mg HG3.out.lt (Ne.symm hgok.2.2.2))
      have HM5 := Lib.hid (HM3.out.move (hK5.block ma HM3.out.lt (Ne.symm hgok.2.2.1)))
      have hz5 := hK5.size
      have HK25 := Lib.hid (show ∀ k, k < w.heap.size → k ≠ ma → k ≠ gb → wc.heap[k]? = w.heap[k]? from fun k hk h2 h3 => (hK5.block k (by omega) h3).trans (HK23.out k hk h2))
      have HO5 := Lib.hid (show wc.os = w.os ∧ wc.tape = w.tape ∧ wc.output = w.output from ⟨hK5.os.trans HO3.out.1, hK5.tape.trans HO3.out.2.1, hK5.output.trans HO3.out.2.2⟩)
      have r1 := blk_cell hP5 0
      have r2 := blk_cell hD5 2
      simp only [List.getElem?_toArray, List.getElem?_cons_zero, List.getElem?_cons_succ] at r1 r2
      have HR5 := Lib.hid hR5
      have HG5 := Lib.hid hG5
      have HD5 := Lib.hid hD5
      have HP5 := Lib.hid hP5
      have hmx : gs.length < maxLen := by simp [maxLen]; omega
      clear hR5 hG5 hD5 hP5 hK5 u0 u1 u2 hl3
      go_wp2_with fail
      go_still_tail 7, (by kernel_rfl)
      change wpList _ _ _ _ _ wc.drew
      refine wpList_put_at (K := KG) (enc := _root_.id) (show MapAt KG _root_.id wc.drew mg gs from HG5.out) (by rfl) (.tmp 36) (.tmp 38) (.tmp 39) 236 33 rfl under_groups hmx rfl g (.slice (some ⟨gb, 0, none⟩) ys.length cap) rfl rfl hgs ?_
      intro w6 hM6 hB6
      have HN := Lib.hid hM6.nodup
      have HD6 := Lib.hid (hB6.blk (show wc.drew.heap[lb]? = _ from HD5.out) (Ne.symm HV2.out.nes.2))
      have hP6 := hB6.blk (show wc.drew.heap[w.heap.size + 1]? = _ from HP5.out) (show w.heap.size + 1 ≠ mg by omega)
      have HMA6 := Lib.hid (HM5.out.move (hB6.2.2.2.2 ma HV2.out.ne))
      have HR6 := Lib.hid (Kd.R_step HR5.out (fun k hk _ => hB6.2.2.2.2 k hk.2.2.2))
      have HK26 := Lib.hid (show ∀ k, k < w.heap.size → k ≠ ma → k ≠ mg → k ≠ gb → w6.heap[k]? = w.heap[k]? from fun k hk h1 h2 h3 => (hB6.2.2.2.2 k h2).trans (HK25.out k hk h1 h3))
      have HO6 := Lib.hid (show w6.os = w.os ∧ w6.tape = w.tape ∧ w6.output = w.output from ⟨hB6.1.trans HO5.out.1, hB6.2.1.trans HO5.out.2.1, hB6.2.2.1.trans HO5.out.2.2⟩)
      have hz6 : w.heap.size ≤ w6.heap.size := by have := hB6.2.2.2.1; have h3 : wc.drew.heap.size = wc.heap.size := rfl; omega
      have hpl : (mput gs g (.slice (some ⟨gb, 0, none⟩) ys.length cap)).length = gs.length := by rw [mput_length HG5.out.nodup, HV.out]; rfl
      have s1 := blk_cell hP6 0
      have s2 := blk_cell HD6.out 2
      simp only [List.getElem?_toArray, List.getElem?_cons_zero, List.getElem?_cons_succ] at s1 s2
      have HM6 := Lib.hid hM6
      have HPL := Lib.hid hpl
      clear hM6 hB6 hP6 r1 r2 hpl
      by_cases hemp : ys = []
      · have he : (((ys.length : Nat) : Int) == 0) = true := by rw [hemp]; rfl
        have HE := Lib.hid hemp
        clear hemp
        go_wp2_with fail
        go_still_tail 6, (by kernel_rfl)
        change wpList _ _ _ _ _ w6.drew
        refine wpList_del_at (K := KG) (enc := _root_.id) (show MapAt KG _root_.id w6.drew mg _ from HM6.out) (by rfl) (.tmp 46) (.tmp 48) 236 33 rfl under_groups rfl g rfl hgs ?_
        intro w7 hM7 hB7
        have HM7 := Lib.hid hM7
        have HB7 := Lib.hid hB7
        clear hM7 hB7 s1 s2
        go_wp2_with fail
        go_ret
        refine ⟨rfl, ⟨_, H.out.dropped hO.ids hm (fun k h1 h2 h3 h4 h5 => (HB7.out.2.2.2.2 k h4).trans (HK26.out k h1 h3 h4 h5)) (HB7.out.blk (show w6.drew.heap[lb]? = _ from HD6.out) (Ne.symm HV2.out.nes.2)) (HMA6.out.move (HB7.out.2.2.2.2 ma HV2.out.ne)) HM7.out HV.out (fun g' hne => by rw [mget_del_other _ hne, mget_put_other _ _ hne]) (.inl ⟨mget_del_same _ _, ?_⟩), ?_⟩, ?_⟩
        · rw [grp_drop, ← HYS.out]
          exact HE.out
        · have := mdel_length HN.out g
          rw [HPL.out] at this
          omega
        · exact ⟨HB7.out.1.trans HO6.out.1, HB7.out.2.1.trans HO6.out.2.1, HB7.out.2.2.1.trans HO6.out.2.2, by rw [HB7.out.2.2.2.1]; exact hz6, fun k hk hn => (HB7.out.2.2.2.2 k (fun e => hn (e ▸ H.out.okmg))).trans (HK26.out k hk (fun e => hn (e ▸ H.out.okma)) (fun e => hn (e ▸ H.out.okmg)) (fun e => hn (e ▸ hgok.1)))⟩
      · have he : (((ys.length : Nat) : Int) == 0) = false := by
          have := List.length_pos_iff.2 hemp
          simp
          omega
        have HE := Lib.hid hemp
        clear hemp
        go_wp2_with fail
        go_ret
        refine ⟨rfl, ⟨_, H.out.dropped hO.ids hm (fun k h1 h2 h3 h4 h5 => HK26.out k h1 h3 h4 h5) HD6.out HMA6.out HM6.out HV.out (fun g' hne => by rw [mget_put_other _ _ hne]) (.inr ⟨_, mget_put_same _ _ _, ?_, ?_, rfl⟩), by rw [HPL.out]; exact Nat.le_refl _⟩, ?_⟩
        · rw [grp_drop, ← HYS.out]
          exact HR6.out
        · rw [grp_drop, ← HYS.out]
          exact HE.out
        · exact ⟨HO6.out.1, HO6.out.2.1, HO6.out.2.2, hz6, fun k hk hn => HK26.out k hk (fun e => hn (e ▸ H.out.okma)) (fun e => hn (e ▸ H.out.okmg)) (fun e => hn (e ▸ hgok.1))⟩

theorem laneDrop_any (w : World) (ok : Nat → Prop) (lb T : Nat) (s : List En) (id : Int) (h : LnAt w ok lb s T) (hw : (Lit.int .i64 id).wf = true) (hT : T ≤ 1000000) :
    Calls Tryz.prog 192 #[.pointer (some ⟨lb, 0, none⟩), .int .i64 id] w fun e w' => e = .returned (.bool (hasEn s id)) ∧ LnAt w' ok lb (lDrop s id) T ∧ Keep ok w w' := by
  obtain ⟨ma, mg, turn, gs, hV, hO, h0, h1, h2, h3⟩ := h
  have hh := en_has s id
  cases hm : mget s id with
  | some v =>
    rw [hm] at hh
    have hh : hasEn s id = true := hh
    refine Calls.mono (laneDrop_some w ok lb ma mg turn s gs id v.1 v.2 hV hO hw (mget_some hm) (by omega)) ?_
    rintro e w' ⟨rfl, ⟨gs', hV', hgl⟩, hK⟩
    exact ⟨by rw [hh], ⟨ma, mg, turn, gs', hV', hO.drop id, h0, h1, by omega, Nat.le_trans (lDrop_len s id) h3⟩, hK⟩
  | none =>
    rw [hm] at hh
    have hh : hasEn s id = false := hh
    refine Calls.mono (laneDrop_none w ok lb ma mg turn s gs id hV hw hm) ?_
    rintro e w' ⟨rfl, hB⟩
    refine ⟨by rw [hh], ?_, Keep.of_below hB ok⟩
    rw [lDrop_none hh]
    exact LnAt.below ⟨ma, mg, turn, gs, hV, hO, h0, h1, h2, h3⟩ hB
end Go.Proofs.YtipdleiginnjmaaGreatDoor
namespace Go.Proofs.YtipdleiginnjmaaGreatDoor
open Go.RowKit Go.Proofs.YtipdleiginnjmaaGreatDoorW.PrintWords
open Go.Sort (grow putRow putCells ahead mapBlock Holds SWO PermIn SortedIn cell?_grow cell?_putRow_other size_putRow grow_empty heap_grow_old)

abbrev Wid := {x : Int // (Lit.int .i64 x).wf = true}
instance : Inhabited Wid := ⟨⟨0, rfl⟩⟩
def encW (x : Wid) : Value := .int .i64 x.1
def placeOf (s : List En) (id : Int) : ByteArray × Int := (mget s id).getD (ByteArray.empty, 0)
def turnOf (s : List En) (id : Int) : Int := (placeOf s id).2
def ordT (s : List En) (x y : Wid) : Int := cmpI (turnOf s x.1) (turnOf s y.1)
theorem turnOf_mem {s : List En} (hn : (s.map (·.1)).Nodup) {p : En} (hp : p ∈ s) : turnOf s p.1 = p.2.2 := by unfold turnOf placeOf; rw [mget_mem hn hp]; rfl

theorem MapAt.lookT {w : World} {ma : Nat} {s : List En} (h : MapAt KI encP w ma s) {id : Int} (hw : (Lit.int .i64 id).wf = true) : (Instr.lookup 233 (.map (some ma)) (.int .i64 id) false).run Tryz.prog w = .ok (.agg #[.string (placeOf s id).1, .int .i64 (turnOf s id)]) w := by
  have hlk := h.look1 under_at (zero_place w) (a := id) hw
  unfold turnOf placeOf
  cases hm : mget s id with
  | none => rw [hm] at hlk; exact hlk
  | some v => rw [hm] at hlk; exact hlk

set_option maxHeartbeats 800000 in
theorem sorted_cl (x y : Wid) (W : World) (lb ma box : Nat) (s : List En) (hb : W.cell? ⟨box, 0, none⟩ = some (.pointer (some ⟨lb, 0, none⟩))) (hl : W.cell? ⟨lb, 1, none⟩ = some (.map (some ma))) (hM : MapAt KI encP W ma s) :
    Calls Tryz.prog 178 #[encW x, encW y, .pointer (some ⟨box, 0, none⟩)] W fun e w' => e = .returned (.int .i64 (ordT s x y)) ∧ ∃ q, w' = W.drewN q := by
  obtain ⟨x, hx⟩ := x
  obtain ⟨y, hy⟩ := y
  have k1 : ∀ n, (Instr.lookup 233 (.map (some ma)) (.int .i64 x) false).run Tryz.prog (W.drewN n) = .ok (.agg #[.string (placeOf s x).1, .int .i64 (turnOf s x)]) (W.drewN n) := fun n => MapAt.lookT (show MapAt KI encP (W.drewN n) ma s from hM) hx
  have k2 : ∀ n, (Instr.lookup 233 (.map (some ma)) (.int .i64 y) false).run Tryz.prog (W.drewN n) = .ok (.agg #[.string (placeOf s y).1, .int .i64 (turnOf s y)]) (W.drewN n) := fun n => MapAt.lookT (show MapAt KI encP (W.drewN n) ma s from hM) hy
  clear hM
  show Calls Tryz.prog 178 #[.int .i64 x, .int .i64 y, .pointer (some ⟨box, 0, none⟩)] W fun e w' => e = .returned (.int .i64 (cmpI (turnOf s x) (turnOf s y))) ∧ ∃ q, w' = W.drewN q
  generalize turnOf s x = tx at *
  generalize turnOf s y = ty at *
  generalize (placeOf s x).1 = gx at *
  generalize (placeOf s y).1 = gy at *
  have f1 : ∀ w : World, (Instr.field 235 (.agg #[.string gx, .int .i64 tx]) 1).run Tryz.prog w = .ok (.int .i64 tx) w := fun w => by kernel_rfl
  have f2 : ∀ w : World, (Instr.field 235 (.agg #[.string gy, .int .i64 ty]) 1).run Tryz.prog w = .ok (.int .i64 ty) w := fun w => by kernel_rfl
  go_enter Tryz.func178, Tryz.ntmps178
  go_wp2_with fail
  go_quiet ((go_at_call 179; refine Calls.quiet_of_same ((cmpInt_any tx ty _).mono fun e w' h => ⟨h.1, h.2.symm⟩)))
  go_wp2_with fail
  go_ret
  exact ⟨rfl, _, rfl⟩

theorem sw_heap {α : Type} [Inhabited α] (enc : α → Value) (w : World) (blk off m : Nat) (dk : Array α) (os : Array Obj) {k : Nat} (hne : k ≠ blk) (hk : k < w.heap.size) : (sortWorld enc w blk off m dk os).heap[k]? = w.heap[k]? := by
  unfold sortWorld
  rw [heap_grow_old _ _ (by simp [putRow, mapBlock]; omega)]
  have : blk ≠ k := fun e => hne e.symm
  simp [putRow, mapBlock, Array.getElem?_modify, this]
theorem wids {l : List Int} (h : ∀ x ∈ l, (Lit.int .i64 x).wf = true) : ∃ lw : List Wid, lw.map (·.1) = l := by
  induction l with
  | nil => exact ⟨[], rfl⟩
  | cons x l ih =>
    obtain ⟨lw, e⟩ := ih (fun y hy => h y (List.mem_cons_of_mem _ hy))
    exact ⟨⟨x, h x (List.mem_cons_self ..)⟩ :: lw, by rw [List.map_cons, e]⟩
theorem getBang_map (d : Array Wid) (j : Nat) (h : j < d.size) : (d.map (·.1))[j]! = (d[j]!).1 := by
  rw [getElem!_pos (d.map (·.1)) j (by simpa using h), getElem!_pos d j h, Array.getElem_map]
theorem putCells_wid (off : Nat) (d : Array Wid) (c : Array Value) : putCells encW off d c = putCells (Value.int .i64) off (d.map (·.1)) c := by
  unfold putCells
  congr 1
  funext k x
  rw [Array.size_map]
  by_cases h : off ≤ k ∧ k < off + d.size
  · rw [if_pos h, if_pos h, getBang_map d _ (by omega)]
    rfl
  · rw [if_neg h, if_neg h]
theorem sortWorld_wid (w : World) (blk off m : Nat) (d : Array Wid) (os : Array Obj) : sortWorld encW w blk off m d os = sortWorld (Value.int .i64) w blk off m (d.map (·.1)) os := by
  unfold sortWorld putRow
  rw [show putCells encW off d = putCells (Value.int .i64) off (d.map (·.1)) from funext (putCells_wid off d)]
theorem holds_wid {w : World} {blk off : Nat} {d : Array Wid} (h : Holds (Value.int .i64) w blk off (d.map (·.1))) : Holds encW w blk off d := by
  intro j hj
  have := h j (by simpa using hj)
  rw [getBang_map d j hj] at this
  exact this
theorem ltOf_ord (s : List En) (x y : Wid) : ltOf (ordT s) x y = decide (turnOf s x.1 < turnOf s y.1) := by
  unfold ltOf ordT
  exact decide_eq_decide.2 (cmpI_lt _ _)
theorem ord_swo (s : List En) : SWO (ltOf (ordT s)) where
  irrefl x := by rw [ltOf_ord]; simp
  trans x y z h1 h2 := by rw [ltOf_ord] at *; simp at *; omega
  ntrans x y z h1 h2 := by rw [ltOf_ord] at *; simp at *; omega
theorem R_sortedI {w : World} {b : Nat} {ok : Nat → Prop} {g n cap m : Nat} {os : Array Obj} {xs ys : List Int} (hR : (Kd.int .i64).R 3 w b ok (.slice (some ⟨g, 0, none⟩) n cap) xs) (hl : ys.length = xs.length) :
    (Kd.int .i64).R 3 (sortWorld (Value.int .i64) w g 0 m ys.toArray os) b ok (.slice (some ⟨g, 0, none⟩) n cap) ys ∧ w.grownBy (sortWorld (Value.int .i64) w g 0 m ys.toArray os) (some g) := by
  obtain ⟨hn, _, _⟩ := Kd.R_reads' hR
  subst hn
  have ho := Kd.own_of_R hR
  have hgb := Go.grownBy_sortedI (w := w) (g := g) (n := m) (os := os) ys.toArray
  refine ⟨?_, hgb⟩
  rcases ho.2 with ⟨hv, _⟩ | ⟨g', cap', cur, hv, hb, hh, h1, h2, h3, h4⟩
  · cases hv
  injection hv with ha _ hc'
  injection ha with ha
  injection ha with ha
  subst ha hc'
  rw [Nat.mul_one] at h3
  refine Kd.R_of_own ⟨by rw [encs_length, Nat.mul_one], .inr ⟨g, cap, _, by rw [hl], hb, Go.heap_sortedI _ hh, by omega, h2, by simpa [putCells] using h3, ?_⟩⟩ hR.1
  rw [Nat.mul_one]
  exact Go.take_putCellsI cur ys (by omega)

set_option maxHeartbeats 800000 in
theorem laneSorted_any (w : World) (ok okR : Nat → Prop) (lb T : Nat) (s s2 : List En) (h : LnAt w ok lb s T) (b : Nat) (A : Option Addr) (n cap : Nat) (l : List Int) (hR : (Kd.int .i64).R 3 w b okR (.slice A n cap) l) (hd : ∀ k, okR k → ¬ ok k) (hp : l.Perm (s2.map (·.1))) (hsub : s2.Sublist s) (hn : n ≤ 1000000) :
    Calls Tryz.prog 130 #[.pointer (some ⟨lb, 0, none⟩), .slice A n cap] w fun e w' => e = .returned (.slice A n cap) ∧ (Kd.int .i64).R 3 w' b okR (.slice A n cap) (s2.map (·.1)) ∧ LnAt w' ok lb s T ∧ Keep okR w w' := by
  obtain ⟨ma, mg, turn, gs, hV, hO, hT⟩ := h
  obtain ⟨hnl, _, _⟩ := Kd.R_reads' hR
  have hlt := hV.lt
  obtain ⟨t0, t1, t2, _⟩ := hV.cells
  have hwf : ∀ x ∈ l, (Lit.int .i64 x).wf = true := fun x hx => by
    obtain ⟨p, hp2, rfl⟩ := List.mem_map.1 (hp.mem_iff.1 hx)
    exact hV.at_.oks p (hsub.mem hp2)
  have hB1 : Below w.heap.size w (w.alloc (.cells #[.pointer (some ⟨lb, 0, none⟩)] 108)) := below_alloc (Below.refl _ _) _
  have hcon : Calls Tryz.prog 177 #[.slice A n cap, .func (.func 178) #[] #[.pointer (some ⟨w.heap.size, 0, none⟩)]] (w.alloc (.cells #[.pointer (some ⟨lb, 0, none⟩)] 108)) fun e w' => e = .returned (.tuple #[]) ∧ (Kd.int .i64).R 3 w' b okR (.slice A n cap) (s2.map (·.1)) ∧ Keep okR w w' := by
    have hb1 := heap_alloc_new w (.cells #[.pointer (some ⟨lb, 0, none⟩)] 108)
    have hR1 := Kd.R_below hR hB1
    have hV1 := hV.move (fun k _ hk => hB1.block k hk)
    have hz1 : w.heap.size < (w.alloc (.cells #[.pointer (some ⟨lb, 0, none⟩)] 108)).heap.size := by simp
    generalize w.alloc (.cells #[.pointer (some ⟨lb, 0, none⟩)] 108) = w1 at *
    rcases Nat.eq_zero_or_pos n with h0 | h0
    · subst h0
      have hl0 : l = [] := List.eq_nil_of_length_eq_zero hnl.symm
      subst hl0
      have hs0 : s2.map (·.1) = [] := List.nil_perm.1 hp
      rw [hs0]
      have hc := AnyF.slices_SortFunc_none { Tryz.sortInt with } A cap (.func (.func 178) #[] #[.pointer (some ⟨w.heap.size, 0, none⟩)]) w1
      refine Calls.mono hc ?_
      rintro e w' ⟨rfl, rfl⟩
      exact ⟨rfl, hR1, Keep.of_below hB1 _⟩
    · obtain ⟨g, cap', hv, hbg, hgl, cells, hg⟩ := Kd.R_form hR (by omega)
      injection hv with hA hx hc
      subst hA hc
      have hokg := hR.1 g rfl
      have hng := hd g hokg
      obtain ⟨lw, hlw⟩ := wids hwf
      subst hlw
      have eg : ∀ args w, (callFunc 178 args).run Tryz.prog w = .ok (.enter 178 args) w := enters_of Tryz.func178 (by kernel_rfl) rfl
      have hne : ∀ k, ok k → k ≠ g := fun k hk e => hng (e ▸ hk)
      have hcmp : CmpLays1 Tryz.prog 178 #[.pointer (some ⟨w.heap.size, 0, none⟩)] encW (ordT s) g 0 lw.toArray.size w1 := by
        intro m os dk _ x y
        have hk : ∀ k, k ≠ g → k < w1.heap.size → (sortWorld encW w1 g 0 m dk os).heap[k]? = w1.heap[k]? := fun k h1 h2 => sw_heap _ _ _ _ _ _ _ h1 h2
        have hhb := (hk w.heap.size (by omega) hz1).trans hb1
        have hhl := (hk lb (hne lb hV.oklb) (by omega)).trans hV1.hd
        refine Calls.mono (sorted_cl x y _ lb ma w.heap.size s ?_ ?_ (hV1.at_.move (hk ma (hne ma hV.okma) (by omega)))) ?_
        · have := blk_cell hhb 0
          simpa using this
        · have := blk_cell hhl 1
          simpa using this
        · rintro e w' ⟨rfl, q, rfl⟩
          exact ⟨rfl, q, #[], by rw [grow_empty]⟩
      have ho := Kd.own_of_R hR1
      rcases ho.2 with ⟨hv, _⟩ | ⟨g', cap', cur, hv, hb, hh, h1, h2, h3, h4⟩
      · cases hv
      injection hv with ha _ hc'
      injection ha with ha
      injection ha with ha
      subst ha hc'
      rw [Nat.mul_one] at h3 h4
      have hH : Holds encW w1 g 0 lw.toArray := holds_wid (by
        have := Go.holds_of_blockI (ss := lw.map (·.1)) hh h4
        simpa using this)
      have hln : lw.length = n := by rw [hnl, List.length_map]
      have hc2 := Any.slices_SortFunc Tryz.sortInt encW (fun _ => rfl) (ordT s) (ord_swo s) 178 #[.pointer (some ⟨w.heap.size, 0, none⟩)] g 0 cap lw.toArray w1 eg hcmp hH (by omega) (by simp; omega)
      rw [show lw.toArray.size = n by simpa using hln] at hc2
      refine Calls.mono hc2 ?_
      rintro e w' ⟨rfl, d', m, os, ⟨hsz, _, hperm⟩, hsort, rfl⟩
      have hdl : d'.size = n := by rw [hsz]; simpa using hln
      have hp2 : (d'.toList.map (·.1)).Perm (s2.map (·.1)) := by
        have h1 : d'.extract 0 n = d' := by rw [← hdl]; simp
        have h2 : lw.toArray.extract 0 n = lw.toArray := by rw [← hln]; simp
        rw [h1, h2] at hperm
        exact (hperm.map _).trans hp
      have hturn : ∀ p ∈ s2, turnOf s p.1 = p.2.2 := fun p hp' => turnOf_mem hO.ids (hsub.mem hp')
      have hrow2 := hO.row.sublist hsub
      have hs2 : d'.toList.map (·.1) = s2.map (·.1) := by
        refine hp2.eq_of_pairwise (le := fun a b => turnOf s a ≤ turnOf s b) (fun a b ha hb' h1 h2 => ?_) ?_ ?_
        · obtain ⟨pa, hpa, rfl⟩ := List.mem_map.1 (hp2.mem_iff.1 ha)
          obtain ⟨pb, hpb, rfl⟩ := List.mem_map.1 hb'
          rw [hturn pa hpa, hturn pb hpb] at h1 h2
          have : pa = pb := by
            obtain ⟨i, hi, rfl⟩ := List.getElem_of_mem hpa
            obtain ⟨j, hj, rfl⟩ := List.getElem_of_mem hpb
            rcases Nat.lt_trichotomy i j with hij | hij | hij
            · have := List.pairwise_iff_getElem.1 hrow2 i j hi hj hij; omega
            · subst hij; rfl
            · have := List.pairwise_iff_getElem.1 hrow2 j i hj hi hij; omega
          rw [this]
        · rw [List.pairwise_iff_getElem]
          intro i j hi hj hij
          have hi' : i < d'.size := by simpa using hi
          have hj' : j < d'.size := by simpa using hj
          have := hsort i j (Nat.zero_le _) hij (by omega)
          rw [getElem!_pos d' i hi', getElem!_pos d' j hj', ltOf_ord] at this
          have := of_decide_eq_false this
          simpa using this
        · rw [List.pairwise_map]
          exact (hrow2.imp_of_mem (fun {a b} ha hb' hlt => by rw [hturn a ha, hturn b hb']; omega))
      rw [sortWorld_wid, show d'.map (·.1) = (s2.map (·.1)).toArray from Array.toList_inj.1 (by rw [← hs2, Array.toList_map])]
      obtain ⟨r1, r2⟩ := R_sortedI (m := m) (os := os) hR1 (ys := s2.map (·.1)) (by rw [hp.length_eq])
      refine ⟨rfl, r1, (Keep.of_below hB1 _).trans ⟨r2.os, r2.tape, r2.output, r2.size, fun k hk hn => r2.block k hk (fun e => hn (.inl ((Option.some.inj e) ▸ hokg)))⟩⟩
  have HC := Lib.hid hcon
  have H := Lib.hid (show LnAt w ok lb s T from ⟨ma, mg, turn, gs, hV, hO, hT⟩)
  clear hcon hV hO hT hR hp hsub hwf t0 t1 t2 hB1 hnl
  go_enter Tryz.func130, Tryz.ntmps130
  go_wp2_with fail
  refine Calls.mono HC.out ?_
  rintro e w2 ⟨rfl, hR2, hK2⟩
  have HR2 := Lib.hid hR2
  have HK2 := Lib.hid hK2
  clear hR2 hK2
  go_wp2_with fail
  go_ret
  exact ⟨rfl, HR2.out, H.out.kept HK2.out (fun k hk _ hr => hd k hr hk), HK2.out⟩
end Go.Proofs.YtipdleiginnjmaaGreatDoor
namespace Go.Proofs.YtipdleiginnjmaaGreatDoor
open Go.RowKit Go.Maps Go.Proofs.YtipdleiginnjmaaGreatDoorW.PrintWords

theorem MapAt.intKeys {β : Type} {P : Program} {k : TypeId} (hk : P.underlying k = some (.int .i64)) {enc : β → Value} {w : World} {b : Nat} {ps : List (Int × β)} (h : MapAt (intKey hk) enc w b ps) :
    ∃ D : DataW Value, w.ownsMap P k anyV b ps.length D ∧ Maps.size D = ps.length ∧ (ps.map (·.1)).Perm (Go.intKeys D) := by
  obtain ⟨D, h1, h2, _, h4, h5⟩ := h
  refine ⟨D, h1, h4, ?_⟩
  have h1' := h1
  obtain ⟨es, hD, hpw, _⟩ := h1'.entries (int_keyed hk)
  obtain ⟨es', hD', hko⟩ := h1.keysOf
  obtain rfl : es = es' := by rw [hD] at hD'; simpa using hD'
  subst hD
  refine perm_intKeys hpw (fun p hp => by obtain ⟨v, hv⟩ := hko p hp; obtain ⟨x, _, hx, _⟩ := Maps.keyOf_i64 hk hv; exact ⟨x, hx⟩) h2 (fun x => ?_)
  have h6 := (h5 x).1
  have h6 : Maps.has (.map es) (.int .i64 x) = (mget ps x).isSome := h6
  rw [h6]
  constructor
  · intro hx
    obtain ⟨p, hp, rfl⟩ := List.mem_map.1 hx
    rw [mget_mem h2 hp]; rfl
  · intro hx
    obtain ⟨v, hv⟩ := Option.isSome_iff_exists.1 hx
    exact List.mem_map.2 ⟨_, mget_some hv, rfl⟩
theorem keysP_any (mb : Option Nat) (w : World) : Calls Tryz.prog 132 #[.map mb] w fun e w' => e = .returned (.func (.func 181) #[] #[.pointer (some ⟨w.heap.size, 0, none⟩)]) ∧ w' = w.alloc (.cells #[.map mb] 233) :=
  (callsIn_wide (n := 5)).1 (AnyZI.keys_in Tryz.keysP Fence.wide 5 trivial rfl mb w)
theorem collectP_any (w : World) (ma : Nat) (s : List En) (h : MapAt KI encP w ma s) (hl : s.length ≤ 1000000) :
    Calls Tryz.prog 131 #[.func (.func 181) #[] #[.pointer (some ⟨w.heap.size, 0, none⟩)]] (w.alloc (.cells #[.map (some ma)] 233)) fun e w' => ∃ A c l, e = .returned (.slice A l.length c) ∧ l.Perm (s.map (·.1)) ∧ (Kd.int .i64).R 3 w' w.heap.size (fun _ => True) (.slice A l.length c) l ∧ Below w.heap.size w w' := by
  have hlt := h.lt
  have h1 := h.below (below_alloc (Below.refl _ w) (.cells #[.map (some ma)] 233))
  obtain ⟨D, hown, hsz, hperm⟩ := MapAt.intKeys Tryz.underlying3 h1
  have hb := heap_alloc_new w (.cells #[.map (some ma)] 233)
  have hB : Below w.heap.size w (w.alloc (.cells #[.map (some ma)] 233)) := below_alloc (Below.refl _ _) _
  have hz : w.heap.size < (w.alloc (.cells #[.map (some ma)] 233)).heap.size := by simp
  generalize w.alloc (.cells #[.map (some ma)] 233) = w1 at *
  have hc := blk_cell hb 0
  simp only [List.getElem?_toArray, List.getElem?_cons_zero] at hc
  have hseq : SeqGives Fence.wide 1 Tryz.prog 181 #[.pointer (some ⟨w.heap.size, 0, none⟩)] encZ (fun ss => ss.Perm (Go.intKeys D)) (Maps.size D) w1 :=
    AnyZI.keys_gives (ρ := Tryz.keysP_ren) { Tryz.keysP with } Fence.wide _ trivial rfl (by omega) w.heap.size ma s.length D _ hz hc hown
  have cC := AnyZI.collect_in Tryz.collectI Fence.wide 3 trivial trivial rfl (by omega) 181 #[.pointer (some ⟨w.heap.size, 0, none⟩)] trivial (enters_of Tryz.func181 (by kernel_rfl) rfl) _ _ (by rw [hsz]; simp [maxLen]; omega) (by rw [hsz]; omega) _ hseq
  have cC2 : Calls Tryz.prog 131 _ _ _ := (callsIn_wide (n := 3)).1 cC
  refine Calls.mono cC2 ?_
  rintro e w' ⟨v, l, rfl, hp, hown', _, hBl⟩
  have hR : (Kd.int .i64).R 3 w' w1.heap.size (fun _ => True) v l := Kd.R_of_own hown' (fun _ _ => trivial)
  obtain ⟨A, c, rfl⟩ := Kd.R_slice hR
  exact ⟨A, c, l, rfl, hp.trans hperm.symm, Kd.R_lower hR (Nat.le_of_lt hz), hB.trans (hBl.mono (Nat.le_of_lt hz))⟩

set_option maxHeartbeats 800000 in
theorem laneAll_any (w : World) (ok : Nat → Prop) (lb T : Nat) (s : List En) (h : LnAt w ok lb s T) (hT : T ≤ 1000000) :
    Calls Tryz.prog 81 #[.pointer (some ⟨lb, 0, none⟩)] w fun e w' => ∃ A c, e = .returned (.slice A s.length c) ∧ (Kd.int .i64).R 3 w' w.heap.size (fun _ => True) (.slice A s.length c) (s.map (·.1)) ∧ Below w.heap.size w w' := by
  obtain ⟨ma, mg, turn, gs, hV, hO, hT'⟩ := h
  have hs : s.length ≤ 1000000 := by omega
  obtain ⟨t0, t1, t2, hlt⟩ := hV.cells
  have HA := Lib.hid hV.at_
  have H := Lib.hid (show LnAt w (fun k => ok k ∧ k < w.heap.size) lb s T from LnAt.mono ⟨ma, mg, turn, gs, hV, hO, hT'⟩ (fun k hk hl => ⟨hk, hl⟩))
  clear hV hO hT'
  go_enter Tryz.func81, Tryz.ntmps81
  go_wp2_with fail
  refine Calls.mono (keysP_any _ w) ?_
  rintro e w1 ⟨rfl, rfl⟩
  go_wp2_with fail
  refine Calls.mono (collectP_any w ma s HA.out hs) ?_
  rintro e w2 ⟨A, c, l, rfl, hp, hR, hB⟩
  have hl : l.length = s.length := by rw [hp.length_eq, List.length_map]
  rw [hl] at hR ⊢
  have HR := Lib.hid hR
  have HB := Lib.hid hB
  have HP := Lib.hid hp
  clear hR hB hp hl
  go_wp2_with fail
  refine Calls.mono (laneSorted_any w2 (fun k => ok k ∧ k < w.heap.size) (fun k => w.heap.size ≤ k) lb T s s (H.out.below HB.out) w.heap.size A s.length c l (Kd.R_mono (Kd.R_bound HR.out) (fun k hk => hk.2.1)) (fun k h1 h2 => by omega) HP.out (List.Sublist.refl _) hs) ?_
  rintro e w3 ⟨rfl, hR3, _, hK3⟩
  have HR3 := Lib.hid hR3
  have HK3 := Lib.hid hK3
  clear hR3 hK3
  go_wp2_with fail
  go_ret
  exact ⟨A, c, rfl, Kd.R_mono HR3.out (fun _ _ => trivial), HK3.out.below HB.out HB.out.size (fun k _ h => h)⟩
end Go.Proofs.YtipdleiginnjmaaGreatDoor
namespace Go.Proofs.YtipdleiginnjmaaGreatDoor
open Go.RowKit Go.Maps Go.Proofs.YtipdleiginnjmaaGreatDoorW.PrintWords

set_option maxHeartbeats 800000 in
set_option maxRecDepth 100000 in
theorem mapsCloneP_any (b : Nat) (es : Array MapEntry) (clock : Nat) (w : World) (hb : w.heap[b]? = some (.map es clock)) :
    Calls Tryz.prog 134 #[.map (some b)] w fun e w' => e = .returned (.map (some w.heap.size)) ∧ w' = w.alloc (.map es clock) := by
  have hq := fun w => run_eql_map_nil_sl (P := Tryz.prog) w 233 _ _ (some b) (Tryz.underlying233)
  go_enter Tryz.func134, Tryz.ntmps134
  go_wp2
  rw [run_callFunc_extern Tryz.func84 (by kernel_rfl) (by kernel_rfl) (by kernel_rfl) (e := Extern.MapsClone.clone) (by kernel_rfl), run_maps_clone_sl w 233 hb]
  simp only [Result.andThen]
  rw [Oper.upon_value]
  go_wp2
  rw [run_typeAssert_map_sl _ 233 20 _ _ _ (Tryz.underlying233)]
  simp only [Result.andThen]
  rw [Oper.upon_value]
  go_wp2
  go_ret
  exact ⟨rfl, rfl⟩
theorem mapsCloneP_at {α β : Type} [DecidableEq α] {k : TypeId} (K : KeyKd Tryz.prog k α) (enc : β → Value) (w : World) (b : Nat) (ps : List (α × β)) (h : MapAt K enc w b ps) :
    Calls Tryz.prog 134 #[.map (some b)] w fun e w' => ∃ c, e = .returned (.map (some c)) ∧ MapAt K enc w' c ps ∧ w.heap.size ≤ c ∧ Below w.heap.size w w' := by
  obtain ⟨es, clock, h1, h2⟩ := h.clone
  refine (mapsCloneP_any b es clock w h1).mono ?_
  rintro e w' ⟨rfl, rfl⟩
  exact ⟨_, rfl, h2 _ _ (heap_alloc_new w _), Nat.le_refl _, below_alloc (Below.refl _ _) _⟩
end Go.Proofs.YtipdleiginnjmaaGreatDoor
namespace Go.Proofs.YtipdleiginnjmaaGreatDoor
set_option maxRecDepth 100000
open Go.RowKit Go.Maps Go.Proofs.YtipdleiginnjmaaGreatDoorW.PrintWords

structure CpAt (w wr : World) (ob ma' mg' r : Nat) (turn : Int) (s : List En) (gs todo ps : List (ByteArray × Value)) : Prop where
  hd : wr.heap[ob]? = some (.cells #[.int .i64 turn, .map (some ma'), .map (some mg')] 238 (0, 0))
  at_ : MapAt KI encP wr ma' s
  gm : MapAt KG id wr mg' ps
  low : Below w.heap.size w wr
  ob0 : w.heap.size ≤ ob
  ma0 : w.heap.size ≤ ma'
  mg0 : w.heap.size ≤ mg'
  ne : ma' ≠ mg'
  neo : r ≠ ob
  nea : r ≠ ma'
  neg : r ≠ mg'
  keys : ∀ g, (mget ps g).isSome = ((mget gs g).isSome && !(mget todo g).isSome)
  row : ∀ g v, mget ps g = some v → (Kd.int .i64).R 3 wr w.heap.size (fun k => k ≠ ob ∧ k ≠ ma' ∧ k ≠ mg' ∧ k ≠ r) v (grp s g) ∧ grp s g ≠ []
  apart : ∀ g g' v v', g ≠ g' → mget ps g = some v → mget ps g' = some v' → v.ownBlock ≠ v'.ownBlock
  len : ps.length + todo.length = gs.length
theorem CpAt.done {w wr : World} {ob ma' mg' r : Nat} {turn : Int} {s : List En} {gs ps : List (ByteArray × Value)} (h : CpAt w wr ob ma' mg' r turn s gs [] ps) (hg : ∀ g, mget gs g = none → grp s g = []) : LnV wr (fun k => w.heap.size ≤ k) ob ma' mg' turn s ps where
  hd := h.hd
  at_ := h.at_
  gm := h.gm
  row := fun g v hv => ⟨Kd.R_lower (Kd.R_mono (Kd.R_bound (h.row g v hv).1) (fun k hk => ⟨hk.2.1, hk.1.1, hk.1.2.1, hk.1.2.2.1⟩)) (Nat.zero_le _), (h.row g v hv).2⟩
  gone := fun g hn => hg g (by
    have := h.keys g
    rw [hn] at this
    simpa [mget] using this.symm)
  apart := h.apart
  oklb := h.ob0
  okma := h.ma0
  okmg := h.mg0
  ne := h.ne
theorem todo_parts {todo todo' : List (ByteArray × Value)} {g : ByteArray} {v : Value} (hn : (todo.map (·.1)).Nodup) (hp : todo.Perm ((g, v) :: todo')) : (∀ g', g' ≠ g → mget todo g' = mget todo' g') ∧ mget todo' g = none ∧ mget todo g = some v ∧ todo.length = todo'.length + 1 := by
  have hn2 := (hp.map (·.1)).nodup_iff.1 hn
  rw [List.map_cons, List.nodup_cons] at hn2
  refine ⟨fun g' hne => ?_, ?_, ?_, by rw [hp.length_eq]; rfl⟩
  · rw [← mget_perm hn hp g', mget_cons, if_neg (fun e => hne e.symm)]
  · exact mget_none.2 (fun p hp' e => hn2.1 (by have := List.mem_map_of_mem (f := (·.1)) hp'; rw [← e]; exact this))
  · rw [← mget_perm hn hp g, mget_cons, if_pos rfl]
theorem CpAt.step {w wr w5 w6 : World} {ob ma' mg' r : Nat} {turn : Int} {s : List En} {gs todo todo' ps : List (ByteArray × Value)} {g : ByteArray} {v v' : Value} (h : CpAt w wr ob ma' mg' r turn s gs todo ps) (hn : (todo.map (·.1)).Nodup) (hp : todo.Perm ((g, v) :: todo')) (hv : mget gs g = some v) (hgne : grp s g ≠ [])
    {w4 : World} (hB4 : ∀ k, k < wr.heap.size → k ≠ r → w4.heap[k]? = wr.heap[k]?) (hz4 : wr.heap.size ≤ w4.heap.size) (hlow4 : Below w.heap.size w w4) (hR5 : (Kd.int .i64).R 3 w5 w4.heap.size (fun _ => True) v' (grp s g)) (hB5 : Below w4.heap.size w4 w5) (hM6 : MapAt KG id w6 mg' (mput ps g v')) (hB6 : ButB w5 w6 mg') (hrl : r < wr.heap.size) : CpAt w w6 ob ma' mg' r turn s gs todo' (mput ps g v') := by
  obtain ⟨t1, t2, t3, t4⟩ := todo_parts hn hp
  have hob := blk_lt h.hd
  have hma := h.at_.lt
  have hmg := h.gm.lt
  have hps : mget ps g = none := by
    have := h.keys g
    rw [hv, t3] at this
    simpa using this
  have hk46 : ∀ k, k < wr.heap.size → k ≠ r → k ≠ mg' → w6.heap[k]? = wr.heap[k]? := fun k hk h1 h2 => (hB6.2.2.2.2 k h2).trans ((hB5.block k (by omega)).trans (hB4 k hk h1))
  have hnew : ∀ k, v'.ownBlock = some k → w4.heap.size ≤ k := fun k hk => Kd.R_base hR5 k hk
  refine ⟨?_, ?_, hM6, ?_, h.ob0, h.ma0, h.mg0, h.ne, h.neo, h.nea, h.neg, fun g' => ?_, fun g' u hu => ?_, fun g1 g2 u1 u2 hne h1 h2 => ?_, ?_⟩
  · rw [hk46 ob hob (Ne.symm h.neo) (fun e => h.gm.ne_cells h.hd e.symm)]
    exact h.hd
  · exact h.at_.move (hk46 ma' hma (Ne.symm h.nea) h.ne)
  · exact hB6.below (hlow4.trans (hB5.mono hlow4.size)) h.mg0
  · by_cases e : g' = g
    · subst e
      rw [mget_put_same, hv, t2]
      rfl
    · rw [mget_put_other ps v' e, h.keys g', t1 g' e]
  · by_cases e : g' = g
    · subst e
      rw [mget_put_same] at hu
      obtain rfl := Option.some.inj hu
      refine ⟨Kd.R_lower (Kd.R_mono (Kd.R_step (Kd.R_bound hR5) (fun k hk _ => hB6.2.2.2.2 k (by have := hk.2.1; omega))) (fun k hk => by have := hk.2.1; exact ⟨by omega, by omega, by omega, by omega⟩)) (by have := hlow4.size; omega), hgne⟩
    · rw [mget_put_other ps v' e] at hu
      obtain ⟨hR, hne⟩ := h.row g' u hu
      exact ⟨Kd.R_mono (Kd.R_step (Kd.R_bound hR) (fun k hk _ => hk46 k hk.2.2.1 hk.1.2.2.2 hk.1.2.2.1)) (fun k hk => hk.1), hne⟩
  · have hold : ∀ g' u, mget ps g' = some u → u.ownBlock ≠ v'.ownBlock := fun g' u hu e => by
      obtain ⟨k, hk, hkl, _⟩ := row_own (h.row g' u hu).1 (h.row g' u hu).2
      rw [hk] at e
      have := hnew k e.symm
      omega
    by_cases e1 : g1 = g
    · subst e1
      rw [mget_put_same] at h1
      obtain rfl := Option.some.inj h1
      rw [mget_put_other ps v' (Ne.symm hne)] at h2
      exact Ne.symm (hold g2 u2 h2)
    · rw [mget_put_other ps v' e1] at h1
      by_cases e2 : g2 = g
      · subst e2
        rw [mget_put_same] at h2
        obtain rfl := Option.some.inj h2
        exact hold g1 u1 h1
      · rw [mget_put_other ps v' e2] at h2
        exact h.apart g1 g2 u1 u2 hne h1 h2
  · rw [mput_length h.gm.nodup, hps]
    have := h.len
    simp
    omega

theorem cpBegin {w w2 : World} {cm cg : Nat} {s : List En} (n : Nat) (hn : n = w2.heap.size) (turn : Int) (hM : MapAt KI encP w2 cm s) (hG : MapAt KG id w2 cg []) (hB : Below w.heap.size w w2) (h1 : w.heap.size ≤ cm) (h2 : w.heap.size ≤ cg) (h3 : cm ≠ cg) :
    ∃ ob ma' mg', (Value.pointer (some ⟨n, 0, none⟩)) = .pointer (some ⟨ob, 0, none⟩) ∧ (w2.alloc (.cells #[.int .i64 turn, .map (some cm), .map (some cg)] 238)).heap[ob]? = some (.cells #[.int .i64 turn, .map (some ma'), .map (some mg')] 238 (0, 0)) ∧ MapAt KI encP (w2.alloc (.cells #[.int .i64 turn, .map (some cm), .map (some cg)] 238)) ma' s ∧ MapAt KG id (w2.alloc (.cells #[.int .i64 turn, .map (some cm), .map (some cg)] 238)) mg' [] ∧ Below w.heap.size w (w2.alloc (.cells #[.int .i64 turn, .map (some cm), .map (some cg)] 238)) ∧ w.heap.size ≤ ob ∧ w.heap.size ≤ ma' ∧ w.heap.size ≤ mg' ∧ ma' ≠ mg' :=
  ⟨n, cm, cg, rfl, by rw [hn]; exact heap_alloc_new w2 _, hM.below (below_alloc (Below.refl _ _) _), hG.below (below_alloc (Below.refl _ _) _), below_alloc hB _, by rw [hn]; exact hB.size, h1, h2, h3⟩

set_option maxHeartbeats 1600000 in
theorem laneCopy_v (w : World) (ok : Nat → Prop) (lb ma mg : Nat) (turn : Int) (s : List En) (gs : List (ByteArray × Value)) (h : LnV w ok lb ma mg turn s gs) (hs : s.length ≤ 1000000) (hgl : gs.length ≤ 1000000) :
    Calls Tryz.prog 85 #[.pointer (some ⟨lb, 0, none⟩)] w fun e w' => ∃ cb ma' mg' ps, e = .returned (.pointer (some ⟨cb, 0, none⟩)) ∧ LnV w' (fun k => w.heap.size ≤ k) cb ma' mg' turn s ps ∧ ps.length = gs.length ∧ Below w.heap.size w w' := by
  have hmm := @run_makeMap Tryz.prog
  obtain ⟨t0, t1, t2, hlt⟩ := h.cells
  have H := Lib.hid h
  clear h
  go_enter Tryz.func85, Tryz.ntmps85
  go_upto_region 1 with (fail)
  go_cut [3] (fun p wx => ∃ ob ma' mg', p = .pointer (some ⟨ob, 0, none⟩) ∧ wx.heap[ob]? = some (.cells #[.int .i64 turn, .map (some ma'), .map (some mg')] 238 (0, 0)) ∧ MapAt KI encP wx ma' s ∧ MapAt KG _root_.id wx mg' [] ∧ Below w.heap.size w wx ∧ w.heap.size ≤ ob ∧ w.heap.size ≤ ma' ∧ w.heap.size ≤ mg' ∧ ma' ≠ mg')
  case first =>
    go_region_held3 (fun w' => w'.cell? ⟨lb, 0, none⟩ = some (.int .i64 turn) ∧ w'.cell? ⟨lb, 1, none⟩ = some (.map (some ma))) (first | go_keep | (go_split_ands; exact ⟨cell_later hB (by assumption), cell_later hB (by assumption)⟩)) (first | (go_at_call 134; refine Calls.mono (mapsCloneP_at KI encP _ ma s (by first | exact H.out.at_.below (below_drew (Below.refl _ _)) | exact (H.out.at_.below (below_drew (Below.refl _ _))).below (below_alloc (Below.refl _ _) _) | exact (H.out.at_.below (below_alloc (Below.refl _ _) _)).below (below_drew (Below.refl _ _)))) ?_; rintro e w1 ⟨cm, rfl, hM, hcm, hB⟩))
    all_goals
      go_wp2_with fail
      go_meet
      case rel =>
        first
          | exact cpBegin _ (by simp) turn (hM.below (below_alloc (Below.refl _ _) _)) (MapAt.made KG _root_.id w1) (below_alloc (below_undrew hB) _) (show w.heap.size ≤ cm from hcm) (below_undrew hB).size (by have := hM.lt; omega)
          | (have hg := (MapAt.made KG (_root_.id : Value → Value) w).below (w' := w1) (by exact below_undrew hB)
             have h9 : (w.alloc (Obj.map #[] 0)).heap.size ≤ cm := hcm
             simp at h9
             exact cpBegin _ rfl turn hM hg ((below_alloc (Below.refl _ _) _).trans (Below.mono (below_undrew hB) (by simp))) (by omega) (Nat.le_refl _) (by omega))
  case rest =>
    obtain ⟨ob, ma', mg', rfl, hob, hma, hmg, hlow, h1, h2, h3, h4⟩ := hcut
    have HRG := Lib.hid (H.out.gm.below hlow)
    have p2 := pw_cell_below hlow t2
    have HOB := Lib.hid hob
    have HMA := Lib.hid hma
    have HMG := Lib.hid hmg
    have HLOW := Lib.hid hlow
    clear hob hma hmg hlow t0 t1 t2
    go_wp2_with (refine wpList_range_at (K := KG) (enc := _root_.id) HRG.out (by rfl) (.tmp 21) 236 33 rfl under_groups rfl ?_; intro w2 hR2 hB2 hz2)
    have hob2 := (hB2.block ob (blk_lt HOB.out)).trans HOB.out
    have hcp : CpAt w w2 ob ma' mg' wc.heap.size turn s gs gs [] := {
      hd := hob2
      at_ := HMA.out.below hB2
      gm := HMG.out.below hB2
      low := HLOW.out.trans (hB2.mono HLOW.out.size)
      ob0 := h1
      ma0 := h2
      mg0 := h3
      ne := h4
      neo := by have := blk_lt HOB.out; omega
      nea := by have := HMA.out.lt; omega
      neg := by have := HMG.out.lt; omega
      keys := fun g => by cases (mget gs g) <;> rfl
      row := fun g v hv => by simp [mget] at hv
      apart := fun g g' v v' _ hv => by simp [mget] at hv
      len := by simp }
    have HCP := Lib.hid hcp
    have HR2 := Lib.hid hR2
    clear hob2 hcp hR2 hB2 hz2 p2
    have hrl : w.heap.size ≤ wc.heap.size := HLOW.out.size
    generalize wc.heap.size = r at *
    have HRL := Lib.hid hrl
    clear hrl
    go_frame
    go_loopg [4] gs.length (fun gn u4 wr => ∃ todo ps, todo.length = gn ∧ CpAt w wr ob ma' mg' r turn s gs todo ps ∧ RangeAt KG _root_.id wr mg r gs todo)
    case atStart => exact ⟨gs, [], rfl, HCP.out, HR2.out⟩
    case round =>
      obtain ⟨todo, ps, hgn, hcp, hra⟩ := hrel
      have HCP := Lib.hid hcp
      have HRA := Lib.hid hra
      clear hcp hra
      go_wp2_with (refine wpList_next_at (K := KG) (enc := _root_.id) HRA.out (by rfl) (.tmp 22) rfl rfl ?_ ?_)
      · intro htodo
        have HT := Lib.hid htodo
        clear htodo
        go_wp2_with fail
        go_ret
        have hc := HCP.out
        rw [HT.out] at hc
        exact ⟨ob, ma', mg', ps, rfl, hc.done H.out.gone, by have := hc.len; simpa using this, hc.low⟩
      · intro g v todo' w4 hp hmem hgok hra4 hB4 hent
        have hv := mget_mem H.out.gm.nodup hmem
        have hrow := H.out.row g v hv
        obtain ⟨A, c, hvs, hlc, hC⟩ := Kd.R_reads hrow.1
        have hk4 : ∀ k, k < wr.heap.size → k ≠ r → w4.heap[k]? = wr.heap[k]? := fun k _ h => hB4.2.2.2.2 k h
        have hlow4 : Below w.heap.size w w4 := hB4.below HCP.out.low HRL
        have hC4 : (Kd.int .i64).C w4 A (grp s g).length (grp s g) := Kd.C_below hC hlow4
        have hgl4 := grp_len s g
        have q2 := blk_cell ((hk4 ob (blk_lt HCP.out.hd) (Ne.symm HCP.out.neo)).trans HCP.out.hd) 2
        simp only [List.getElem?_toArray, List.getElem?_cons_zero, List.getElem?_cons_succ] at q2
        have hG4 : MapAt KG _root_.id w4 mg' ps := HCP.out.gm.move (hk4 mg' HCP.out.gm.lt (Ne.symm HCP.out.neg))
        have hpl : ps.length < maxLen := by have := HCP.out.len; simp [maxLen]; omega
        subst hvs
        have hent : (Instr.entry (.pointer (some ⟨r, 0, none⟩))).run Tryz.prog w4 = .ok (.tuple #[.string g, .slice A (grp s g).length c]) w4 := hent
        have hgok : g.size ≤ maxLen := hgok
        have hobl := blk_lt HCP.out.hd
        have hz4 : w4.heap.size = wr.heap.size := hB4.2.2.2.1
        have HP := Lib.hid hp
        have HV := Lib.hid hv
        have HNE := Lib.hid hrow.2
        have HK4 := Lib.hid hk4
        have HL4 := Lib.hid hlow4
        have HC4 := Lib.hid hC4
        have HG4 := Lib.hid hG4
        have HRA4 := Lib.hid hra4
        have HZ4 := Lib.hid hz4
        have hcl : ∀ W, Below w4.heap.size w4 W → Calls Tryz.prog 71 #[.slice A (grp s g).length c] W fun e w' => ∃ A' c', e = .returned (.slice A' (grp s g).length c') ∧ (Kd.int .i64).R 3 w' W.heap.size (fun _ => True) (.slice A' (grp s g).length c') (grp s g) ∧ Below W.heap.size W w' := fun W hW => by
          exact clone_int A c (grp s g) W (Kd.C_below HC4.out hW) hlc (by omega)
        have HCL := Lib.hid hcl
        clear hcl
        clear hp hv hrow hk4 hlow4 hC hC4 hG4 hra4 hB4 hz4 hmem hlc
        go_wp2_with fail
        go_region_held3 (fun w' => w'.cell? ⟨ob, 2, none⟩ = some (.map (some mg'))) (first | exact q2 | exact r2 | exact s2 | go_keep) (first | (go_at_call 71; refine Calls.mono (HCL.out _ (by exact below_drew (Below.refl _ _))) ?_; rintro e w5 ⟨A', c', rfl, hR5, hB5⟩; have r2 := pw_cell_below (below_undrew hB5) q2) | (refine upon_put (K := KG) (enc := _root_.id) (show MapAt KG _root_.id w5 mg' ps from HG4.out.below (below_undrew hB5)) under_groups hpl g (.slice A' (grp s g).length c') rfl rfl hgok ?_; intro w6 hM6 hB6; have s2 := hB6.cell r2 (show ob ≠ mg' from fun e => HCP.out.gm.ne_cells HCP.out.hd e.symm)))
        all_goals
          have HM6 := Lib.hid hM6
          have HB6 := Lib.hid hB6
          have HR5 := Lib.hid hR5
          have HB5 := Lib.hid (below_undrew hB5)
          clear hM6 hB6 hR5 hB5
          go_wp2_with fail
          go_roundg todo'.length
          case measure =>
            have := HP.out.length_eq
            rw [List.length_cons] at this
            omega
          case rel =>
            have hra := HRA.out
            obtain ⟨hl1, hl2, _⟩ := HRA4.out.lt
            have hmgl := H.out.lt.2.2
            have hmg0 := HCP.out.mg0
            refine ⟨todo', mput ps g (.slice A' (grp s g).length c'), rfl, HCP.out.step hra.2.1 HP.out HV.out HNE.out HK4.out (by rw [HZ4.out]; exact Nat.le_refl _) HL4.out HR5.out HB5.out HM6.out HB6.out (by rw [← HZ4.out]; exact hl2), HRA4.out.move ?_ ?_⟩
            · exact (HB6.out.2.2.2.2 mg (by omega)).trans (HB5.out.block mg hl1)
            · exact (HB6.out.2.2.2.2 r HCP.out.neg).trans (HB5.out.block r hl2)

theorem laneCopy_any (w : World) (ok : Nat → Prop) (lb T : Nat) (s : List En) (h : LnAt w ok lb s T) (hT : T ≤ 1000000) :
    Calls Tryz.prog 85 #[.pointer (some ⟨lb, 0, none⟩)] w fun e w' => ∃ cb, e = .returned (.pointer (some ⟨cb, 0, none⟩)) ∧ LnAt w' (fun k => w.heap.size ≤ k) cb s T ∧ Below w.heap.size w w' := by
  obtain ⟨ma, mg, turn, gs, hV, hO, h0, h1, h2, h3⟩ := h
  refine Calls.mono (laneCopy_v w ok lb ma mg turn s gs hV (by omega) (by omega)) ?_
  rintro e w' ⟨cb, ma', mg', ps, rfl, hV', hl, hB⟩
  exact ⟨cb, rfl, ⟨ma', mg', turn, ps, hV', hO, h0, h1, by omega, h3⟩, hB⟩
end Go.Proofs.YtipdleiginnjmaaGreatDoor
namespace Go.Proofs.YtipdleiginnjmaaGreatDoor
set_option maxRecDepth 100000
open Go.RowKit Go.Maps Go.Proofs.YtipdleiginnjmaaGreatDoorW.PrintWords

def hd0 (s : List En) (g : ByteArray) : Int := (grp s g).headD 0
theorem hd0_mem {s : List En} {g : ByteArray} (h : grp s g ≠ []) : (grp s g).head? = some (hd0 s g) := by
  unfold hd0
  cases hl : grp s g with
  | nil => exact absurd hl h
  | cons x l => rfl
theorem heads_perm {s : List En} (hn : (s.map (·.1)).Nodup) {gs : List (ByteArray × Value)} (hg : (gs.map (·.1)).Nodup) (h1 : ∀ g v, mget gs g = some v → grp s g ≠ []) (h2 : ∀ g, mget gs g = none → grp s g = []) :
    (gs.map (fun p => hd0 s p.1)).Perm ((lHeads s).map (·.1)) := by
  have hkey : ∀ p ∈ gs, ∃ t, (hd0 s p.1, (p.1, t)) ∈ s := fun p hp => by
    have hne := h1 p.1 p.2 (mget_mem hg hp)
    have := hd0_mem hne
    exact grp_mem.1 (List.mem_of_head? this)
  have hinj : ∀ x g g' t t', (x, (g, t)) ∈ s → (x, (g', t')) ∈ s → g = g' := fun x g g' t t' a b => by
    have e1 := en_get hn a
    rw [en_get hn b] at e1
    have e2 := Option.some.inj e1
    exact (congrArg Prod.fst e2).symm
  refine (List.perm_ext_iff_of_nodup ?_ ?_).2 (fun x => ?_)
  · rw [List.nodup_iff_pairwise_ne, List.pairwise_map]
    rw [List.nodup_iff_pairwise_ne, List.pairwise_map] at hg
    refine hg.imp_of_mem (fun {p q} hp hq hne e => hne ?_)
    obtain ⟨t, ht⟩ := hkey p hp
    obtain ⟨t', ht'⟩ := hkey q hq
    rw [e] at ht
    exact hinj _ _ _ _ _ ht ht'
  · exact (List.Sublist.map _ List.filter_sublist).nodup hn
  · rw [List.mem_map, List.mem_map]
    constructor
    · rintro ⟨p, hp, rfl⟩
      obtain ⟨t, ht⟩ := hkey p hp
      exact ⟨_, (lHeads_mem hn).2 ⟨ht, hd0_mem (h1 p.1 p.2 (mget_mem hg hp))⟩, rfl⟩
    · rintro ⟨p, hp, rfl⟩
      obtain ⟨hm, hh⟩ := (lHeads_mem hn).1 hp
      have hne : grp s p.2.1 ≠ [] := fun e => by rw [e] at hh; cases hh
      cases hv : mget gs p.2.1 with
      | none => exact absurd (h2 _ hv) hne
      | some v =>
        refine ⟨(p.2.1, v), mget_some hv, ?_⟩
        have := hd0_mem hne
        rw [hh] at this
        exact (Option.some.inj this).symm

set_option maxHeartbeats 1600000 in
theorem laneHeads_any (w : World) (ok : Nat → Prop) (lb T : Nat) (s : List En) (h : LnAt w ok lb s T) (hT : T ≤ 1000000) :
    Calls Tryz.prog 220 #[.pointer (some ⟨lb, 0, none⟩)] w fun e w' => ∃ A c, e = .returned (.slice A (lHeads s).length c) ∧ (Kd.int .i64).R 3 w' w.heap.size (fun _ => True) (.slice A (lHeads s).length c) ((lHeads s).map (·.1)) ∧ Below w.heap.size w w' := by
  obtain ⟨ma, mg, turn, gs, hV, hO, hT'⟩ := h
  have hs : s.length ≤ 1000000 := by omega
  have hgl : gs.length ≤ 1000000 := by omega
  obtain ⟨t0, t1, t2, hlt⟩ := hV.cells
  have HG := Lib.hid hV.gm
  have HROW := Lib.hid hV.row
  have HGONE := Lib.hid hV.gone
  have HIDS := Lib.hid hO.ids
  have H := Lib.hid (show LnAt w (fun k => ok k ∧ k < w.heap.size) lb s T from LnAt.mono ⟨ma, mg, turn, gs, hV, hO, hT'⟩ (fun k hk hl => ⟨hk, hl⟩))
  have hmgl := hV.gm.lt
  clear hV hO hT'
  go_enter Tryz.func220, Tryz.ntmps220
  go_wp2_with (refine wpList_range_at (K := KG) (enc := _root_.id) HG.out (by rfl) (.tmp 9) 236 33 rfl under_groups rfl ?_; intro w2 hR2 hB2 hz2)
  have HR2 := Lib.hid hR2
  have HB2 := Lib.hid hB2
  clear hR2 hB2 hz2 t0 t1 t2
  go_frame
  go_loopg [3, 5] gs.length (fun gn u3 u5 wr => ∃ done todo, todo.length = gn ∧ (done ++ todo).Perm gs ∧ RangeAt KG _root_.id wr mg w.heap.size gs todo ∧ (Kd.int .i64).R 3 wr w.heap.size (fun k => k ≠ w.heap.size) u3 (done.map (fun p => hd0 s p.1)) ∧ Below w.heap.size w wr)
  case atStart => exact ⟨[], gs, rfl, List.Perm.refl _, HR2.out, Kd.R_nil _ _ _ _ _, HB2.out⟩
  case round =>
    obtain ⟨done, todo, hgn, hperm, hra, hR, hB⟩ := hrel
    have HP := Lib.hid hperm
    have HRA := Lib.hid hra
    have HR := Lib.hid hR
    have HB := Lib.hid hB
    have hdl : done.length + todo.length = gs.length := by rw [← List.length_append]; exact hperm.length_eq
    clear hra hperm hR hB
    go_wp2_with (refine wpList_next_at (K := KG) (enc := _root_.id) HRA.out (by rfl) (.tmp 10) rfl rfl ?_ ?_)
    · intro htodo
      have HTD := Lib.hid htodo
      have hdone : done.length ≤ 1000000 := by omega
      clear htodo
      obtain ⟨A, c, rfl⟩ := Kd.R_slice HR.out
      go_wp2_with fail
      have hp : (done.map (fun p => hd0 s p.1)).Perm ((lHeads s).map (·.1)) := by
        refine List.Perm.trans (List.Perm.map _ ?_) (heads_perm HIDS.out HG.out.nodup (fun g v hv => (HROW.out g v hv).2) HGONE.out)
        have := HP.out
        rw [HTD.out, List.append_nil] at this
        exact this
      have hl : done.length = (lHeads s).length := by
        have := hp.length_eq
        rwa [List.length_map, List.length_map] at this
      have hhs : (lHeads s).length ≤ 1000000 := by
        have := List.length_filter_le (fun p : En => decide ((grp s p.2.1).head? = some p.1)) s
        unfold lHeads
        omega
      have hR := HR.out
      rw [List.length_map, hl] at hR
      rw [hl]
      have HR' := Lib.hid hR
      have HPP := Lib.hid hp
      clear hR hp hl
      refine Calls.mono (laneSorted_any wr (fun k => ok k ∧ k < w.heap.size) (fun k => w.heap.size ≤ k) lb T s (lHeads s) (H.out.below HB.out) w.heap.size A (lHeads s).length c _ (Kd.R_mono (Kd.R_bound HR'.out) (fun k hk => hk.2.1)) (fun k h1 h2 => by omega) HPP.out List.filter_sublist hhs) ?_
      rintro e w3 ⟨rfl, hR3, _, hK3⟩
      have HR3 := Lib.hid hR3
      have HK3 := Lib.hid hK3
      clear hR3 hK3
      go_wp2_with fail
      go_ret
      exact ⟨A, c, rfl, Kd.R_mono HR3.out (fun _ _ => trivial), HK3.out.below HB.out HB.out.size (fun k _ h => h)⟩
    · intro g v todo' w4 hp hmem hgok hra4 hB4 hent
      have hv := mget_mem HG.out.nodup hmem
      have hrow := HROW.out g v hv
      obtain ⟨A, c, hvs, hlc, hC⟩ := Kd.R_reads hrow.1
      have hlow4 : Below w.heap.size w w4 := hB4.below HB.out (Nat.le_refl _)
      obtain ⟨ad, x, hA, hx, hc0⟩ := C_nth_scalar (Kd.C_below hC hlow4) 0 (List.length_pos_iff.2 hrow.2)
      have hx0 : hd0 s g = x := by
        unfold hd0
        cases hl : grp s g with
        | nil => exact absurd hl hrow.2
        | cons y l => rw [hl] at hx; simpa using hx
      subst hvs hA
      have hc0 : w4.cell? ad = some (.int .i64 x) := by simpa [Addr.add] using hc0
      have hpos : (0 : Int) < ((grp s g).length : Int) := by have := List.length_pos_iff.2 hrow.2; omega
      have hR4 : (Kd.int .i64).R 3 w4 w.heap.size (fun k => k ≠ w.heap.size) u3 (done.map (fun p => hd0 s p.1)) := Kd.R_step HR.out (fun k hk _ => hB4.2.2.2.2 k hk)
      have hrl := hra4.lt
      have hml : (done.map (fun p => hd0 s p.1)).length ≤ 1000000 := by rw [List.length_map]; omega
      have HPT := Lib.hid hp
      have HL4 := Lib.hid hlow4
      have HRA4 := Lib.hid hra4
      have HR4 := Lib.hid hR4
      have HX := Lib.hid hx0
      have hz4 := hlow4.size
      have hr4 := hrl.2.1
      clear hp hv hrow hlow4 hC hra4 hB4 hmem hx hR4 hx0 hrl
      go_wp2_with (at_builtin; refine Kd.R_append (Kd.int .i64) (w0 := w) w.heap.size rfl (.tmp 15) (.tmp 19) 33 3 (.int .i64 0) 8 rfl Tryz.underlying33 info_int rfl (by decide) (by omega) u3 (done.map (fun p => hd0 s p.1)) x [.int .i64 x] (fun k => k ≠ w.heap.size) (fun _ => False) rfl rfl rfl (fun _ hk => hk.elim) (fun k hk => by omega) HR4.out HL4.out hz4 (by omega) ?_; intro v5 w5 hR5 hB5 hg5 _)
      have HR5 := Lib.hid hR5
      have HB5 := Lib.hid hB5
      have HG5 := Lib.hid hg5
      clear hR5 hB5 hg5
      go_roundg todo'.length
      case measure =>
        have := HPT.out.length_eq
        rw [List.length_cons] at this
        omega
      case rel =>
        have hb5 : ∀ k, k < w4.heap.size → (k = mg ∨ k = w.heap.size) → w5.heap[k]? = w4.heap[k]? := fun k hk hkk => HG5.out.block k hk (fun e => by
          rcases hkk with rfl | rfl
          · have := Kd.R_base HR4.out _ e.symm
            omega
          · exact HR4.out.1 _ e.symm rfl)
        refine ⟨done ++ [(g, .slice (some ad) (grp s g).length c)], todo', rfl, ?_, HRA4.out.move (hb5 mg HRA4.out.lt.1 (.inl rfl)) (hb5 _ hr4 (.inr rfl)), ?_, HB5.out⟩
        · refine List.Perm.trans ?_ HP.out
          rw [List.append_assoc]
          exact List.Perm.append_left _ HPT.out.symm
        · rw [List.map_append, List.map_singleton, show hd0 s (g, (Value.slice (some ad) (grp s g).length c)).1 = x from HX.out]
          exact HR5.out
end Go.Proofs.YtipdleiginnjmaaGreatDoor
namespace Go.Proofs.YtipdleiginnjmaaGreatDoor
open Go.RowKit Go.Proofs.YtipdleiginnjmaaGreatDoorW.PrintWords

def ALn (lb : Nat) (s : List En) (T : Nat) : Asn where
  pred w S := LnAt w S lb s T
  mono h hm := h.mono hm
  move h hm := h.move hm
section
variable {w0 w : World} {lb T : Nat} {s : List En} {Ps : List Asn}
theorem Hp.lnIds (h : Hp w0 w (ALn lb s T :: Ps)) : (s.map (·.1)).Nodup := LnAt.ids h.head
theorem Hp.lnWf (h : Hp w0 w (ALn lb s T :: Ps)) : ∀ p ∈ s, (Lit.int .i64 p.1).wf = true := by
  obtain ⟨ma, mg, turn, gs, h1, _⟩ := h.head
  exact fun p hp => h1.at_.oks p hp
theorem Hp.lnLen (h : Hp w0 w (ALn lb s T :: Ps)) : s.length ≤ T := by
  obtain ⟨ma, mg, turn, gs, h1, h2, h3, h4, h5, h6⟩ := h.head
  exact h6
theorem Hp.lnT (h : Hp w0 w (ALn lb s T :: Ps)) {T' : Nat} (hT : T ≤ T') : Hp w0 w (ALn lb s T' :: Ps) := by
  obtain ⟨S1, h1, h2⟩ := h.use1
  refine h2 w _ (Keep.refl _ _) (LnAt.mono ?_ (fun k hk _ => .inl hk))
  obtain ⟨ma, mg, turn, gs, a1, a2, a3, a4, a5, a6⟩ := h1
  exact ⟨ma, mg, turn, gs, a1, a2, a3, by omega, by omega, by omega⟩
theorem Hp.lnNew (h : Hp w0 w Ps) : Calls Tryz.prog 150 #[] w fun e w' => e = .returned (.pointer (some ⟨w.heap.size + 2, 0, none⟩)) ∧ Hp w0 w' (ALn (w.heap.size + 2) [] 0 :: Ps) := by
  refine Calls.mono (laneNew_any w) ?_
  rintro e w' ⟨rfl, hL, hB⟩
  exact ⟨rfl, h.fresh hB hL⟩
theorem Hp.lnAdd (h : Hp w0 w (ALn lb s T :: Ps)) (g : ByteArray) (id : Int) (hw : (Lit.int .i64 id).wf = true) (hg : g.size ≤ maxLen) (hT : T ≤ 1000000) :
    Calls Tryz.prog 156 #[.pointer (some ⟨lb, 0, none⟩), .string g, .int .i64 id] w fun e w' => e = .returned (.bool (!hasEn s id)) ∧ ∃ t, Hp w0 w' (ALn lb (lAdd s g id t) (T + 1) :: Ps) := by
  obtain ⟨S1, h1, h2⟩ := h.use1
  refine Calls.mono (laneAdd_any w S1 lb T s g id h1 hw hg hT) ?_
  rintro e w' ⟨rfl, ⟨t, hL⟩, hK⟩
  exact ⟨rfl, t, h2 w' _ hK hL⟩
theorem Hp.lnDrop (h : Hp w0 w (ALn lb s T :: Ps)) (id : Int) (hw : (Lit.int .i64 id).wf = true) (hT : T ≤ 1000000) :
    Calls Tryz.prog 192 #[.pointer (some ⟨lb, 0, none⟩), .int .i64 id] w fun e w' => e = .returned (.bool (hasEn s id)) ∧ Hp w0 w' (ALn lb (lDrop s id) T :: Ps) := by
  obtain ⟨S1, h1, h2⟩ := h.use1
  refine Calls.mono (laneDrop_any w S1 lb T s id h1 hw hT) ?_
  rintro e w' ⟨rfl, hL, hK⟩
  exact ⟨rfl, h2 w' _ hK (hL.mono (fun k hk _ => .inl hk))⟩
theorem Hp.lnAll (h : Hp w0 w (ALn lb s T :: Ps)) (hT : T ≤ 1000000) :
    Calls Tryz.prog 81 #[.pointer (some ⟨lb, 0, none⟩)] w fun e w' => ∃ A c, e = .returned (.slice A s.length c) ∧ Hp w0 w' (ARow (Kd.int .i64) 3 (.slice A s.length c) (s.map (·.1)) :: ALn lb s T :: Ps) := by
  refine Calls.mono (laneAll_any w _ lb T s h.head hT) ?_
  rintro e w' ⟨A, c, rfl, hR, hB⟩
  exact ⟨A, c, rfl, h.row hB hR⟩
theorem Hp.lnHeads (h : Hp w0 w (ALn lb s T :: Ps)) (hT : T ≤ 1000000) :
    Calls Tryz.prog 220 #[.pointer (some ⟨lb, 0, none⟩)] w fun e w' => ∃ A c, e = .returned (.slice A (lHeads s).length c) ∧ Hp w0 w' (ARow (Kd.int .i64) 3 (.slice A (lHeads s).length c) ((lHeads s).map (·.1)) :: ALn lb s T :: Ps) := by
  refine Calls.mono (laneHeads_any w _ lb T s h.head hT) ?_
  rintro e w' ⟨A, c, rfl, hR, hB⟩
  exact ⟨A, c, rfl, h.row hB hR⟩
theorem Hp.lnCopy (h : Hp w0 w (ALn lb s T :: Ps)) (hT : T ≤ 1000000) :
    Calls Tryz.prog 85 #[.pointer (some ⟨lb, 0, none⟩)] w fun e w' => ∃ cb, e = .returned (.pointer (some ⟨cb, 0, none⟩)) ∧ Hp w0 w' (ALn cb s T :: ALn lb s T :: Ps) := by
  refine Calls.mono (laneCopy_any w _ lb T s h.head hT) ?_
  rintro e w' ⟨cb, rfl, hL, hB⟩
  exact ⟨cb, rfl, h.fresh hB hL⟩
end
end Go.Proofs.YtipdleiginnjmaaGreatDoor
