/- A lane in memory. -/
import Derived.Test.YtdcifghhamondaaLnLaw
namespace Go.Proofs.Ytdcifghhamondaa
open Go.RowKit Go.Proofs.YtdcifghhamondaaW.PrintWords

theorem info_int : (Try.prog.info? 3).map (fun i => (i.zero, i.size, i.bytes)) = some (some (.int .i64 0), 1, 8) := by kernel_rfl
noncomputable def KI : KeyKd Try.prog 3 Int := intKey Try.underlying3
noncomputable def KG : KeyKd Try.prog 9 ByteArray := strKey Try.underlying9
theorem under_at : Try.prog.underlying 51 = some (.map 3 56) := Try.underlying51
theorem under_groups : Try.prog.underlying 52 = some (.map 9 41) := Try.underlying52
theorem zero_place (w : World) : (zeroValue 56).run Try.prog w = .ok (.agg #[.string ByteArray.empty, .int .i64 0]) w := by kernel_rfl
theorem zero_row (w : World) : (zeroValue 41).run Try.prog w = .ok (.slice none 0 0) w := by kernel_rfl
def encP (p : ByteArray × Int) : Value := .agg #[.string p.1, .int .i64 p.2]

structure LnV (w : World) (ok : Nat → Prop) (lb ma mg : Nat) (turn : Int) (s : List En) (gs : List (ByteArray × Value)) : Prop where
  hd : w.heap[lb]? = some (.cells #[.int .i64 turn, .map (some ma), .map (some mg)] 54 (0, 0))
  at_ : MapAt KI encP w ma s
  gm : MapAt KG id w mg gs
  row : ∀ g v, mget gs g = some v → (Kd.int .i64).R 3 w 0 (fun k => ok k ∧ k ≠ lb ∧ k ≠ ma ∧ k ≠ mg) v (grp s g) ∧ grp s g ≠ []
  gone : ∀ g, mget gs g = none → grp s g = []
  apart : ∀ g g' v v', g ≠ g' → mget gs g = some v → mget gs g' = some v' → v.ownBlock ≠ v'.ownBlock
  oklb : ok lb
  okma : ok ma
  okmg : ok mg
  ne : ma ≠ mg
section
variable {w w' : World} {ok ok' : Nat → Prop} {lb ma mg : Nat} {turn : Int} {s : List En} {gs : List (ByteArray × Value)}
theorem LnV.lt (h : LnV w ok lb ma mg turn s gs) : lb < w.heap.size ∧ ma < w.heap.size ∧ mg < w.heap.size := ⟨blk_lt h.hd, h.at_.lt, h.gm.lt⟩
theorem LnV.nes (h : LnV w ok lb ma mg turn s gs) : ma ≠ lb ∧ mg ≠ lb := ⟨h.at_.ne_cells h.hd, h.gm.ne_cells h.hd⟩
theorem LnV.move (h : LnV w ok lb ma mg turn s gs) (hm : ∀ k, ok k → k < w.heap.size → w'.heap[k]? = w.heap[k]?) : LnV w' ok lb ma mg turn s gs :=
  ⟨(hm lb h.oklb h.lt.1).trans h.hd, h.at_.move (hm ma h.okma h.lt.2.1), h.gm.move (hm mg h.okmg h.lt.2.2), fun g v hv => ⟨Kd.R_step (h.row g v hv).1 (fun k hk hl => hm k hk.1 hl), (h.row g v hv).2⟩, h.gone, h.apart, h.oklb, h.okma, h.okmg, h.ne⟩
theorem LnV.mono (h : LnV w ok lb ma mg turn s gs) (hm : ∀ k, ok k → k < w.heap.size → ok' k) : LnV w ok' lb ma mg turn s gs :=
  ⟨h.hd, h.at_, h.gm, fun g v hv => ⟨Kd.R_mono (Kd.R_bound (h.row g v hv).1) (fun k hk => ⟨hm k hk.1.1 hk.2.2.1, hk.1.2⟩), (h.row g v hv).2⟩, h.gone, h.apart, hm lb h.oklb h.lt.1, hm ma h.okma h.lt.2.1, hm mg h.okmg h.lt.2.2, h.ne⟩
theorem LnV.cells (h : LnV w ok lb ma mg turn s gs) : w.cell? ⟨lb, 0, none⟩ = some (.int .i64 turn) ∧ w.cell? ⟨lb, 1, none⟩ = some (.map (some ma)) ∧ w.cell? ⟨lb, 2, none⟩ = some (.map (some mg)) ∧ lb < w.heap.size := by
  have t0 := blk_cell h.hd 0
  have t1 := blk_cell h.hd 1
  have t2 := blk_cell h.hd 2
  exact ⟨t0, t1, t2, blk_lt h.hd⟩
/-- The group of an entry is a key that may be. -/
theorem LnV.gok (h : LnV w ok lb ma mg turn s gs) {id : Int} {g : ByteArray} {t : Int} (hm : (id, (g, t)) ∈ s) : ∃ v, mget gs g = some v ∧ g.size ≤ maxLen := by
  cases hv : mget gs g with
  | none =>
    have h0 := h.gone g hv
    have h1 := grp_mem.2 ⟨t, hm⟩
    rw [h0] at h1
    simp at h1
  | some v =>
    refine ⟨v, rfl, ?_⟩
    unfold mget at hv
    obtain ⟨p, hp, rfl⟩ := Option.map_eq_some_iff.1 hv
    have hpm := List.mem_of_find?_eq_some hp
    have hpg : p.1 = g := by simpa using List.find?_some hp
    have := h.gm.oks p hpm
    rw [hpg] at this
    exact this
end
/-- A lane (its block lb) that holds s; at most T came so far. -/
def LnAt (w : World) (ok : Nat → Prop) (lb : Nat) (s : List En) (T : Nat) : Prop := ∃ ma mg turn gs, LnV w ok lb ma mg turn s gs ∧ LnOk s turn ∧ 0 ≤ turn ∧ turn ≤ (T : Int) ∧ gs.length ≤ T ∧ s.length ≤ T
section
variable {w w' : World} {ok ok' S : Nat → Prop} {lb T : Nat} {s : List En}
theorem LnAt.mono (h : LnAt w ok lb s T) (hm : ∀ k, ok k → k < w.heap.size → ok' k) : LnAt w ok' lb s T := by
  obtain ⟨ma, mg, turn, gs, h1, h2⟩ := h
  exact ⟨ma, mg, turn, gs, h1.mono hm, h2⟩
theorem LnAt.move (h : LnAt w ok lb s T) (hm : ∀ k, ok k → k < w.heap.size → w'.heap[k]? = w.heap[k]?) : LnAt w' ok lb s T := by
  obtain ⟨ma, mg, turn, gs, h1, h2⟩ := h
  exact ⟨ma, mg, turn, gs, h1.move hm, h2⟩
theorem LnAt.below (h : LnAt w ok lb s T) (hb : Below w.heap.size w w') : LnAt w' ok lb s T := h.move (fun k _ hk => hb.block k hk)
theorem LnAt.kept (h : LnAt w ok lb s T) (hk : Keep S w w') (hd : ∀ k, ok k → k < w.heap.size → ¬ S k) : LnAt w' ok lb s T := h.move (fun k ho hl => hk.block k hl (hd k ho hl))
theorem LnAt.ids (h : LnAt w ok lb s T) : (s.map (·.1)).Nodup := by
  obtain ⟨ma, mg, turn, gs, h1, h2, _⟩ := h
  exact h2.ids
end

set_option maxHeartbeats 400000 in
theorem laneNew_any (w : World) : Calls Try.prog 9 #[] w fun e w' => e = .returned (.pointer (some ⟨w.heap.size + 2, 0, none⟩)) ∧ LnAt w' (fun k => w.heap.size ≤ k) (w.heap.size + 2) [] 0 ∧ Below w.heap.size w w' := by
  have hmm := @run_makeMap Try.prog
  go_enter Try.func9, Try.ntmps9
  go_wp2
  go_ret
  have hB1 : Below w.heap.size w (w.alloc (.map #[] 0)) := below_alloc (Below.refl _ _) _
  have hB2 : Below w.heap.size w ((w.alloc (.map #[] 0)).alloc (.map #[] 0)) := below_alloc hB1 _
  have hB3 : Below w.heap.size w (((w.alloc (.map #[] 0)).alloc (.map #[] 0)).alloc (.cells #[.int .i64 0, .map (some w.heap.size), .map (some (w.heap.size + 1))] 54)) := below_alloc hB2 _
  refine ⟨rfl, ⟨w.heap.size, w.heap.size + 1, 0, [], ⟨?_, ?_, ?_, ?_, ?_, ?_, ?_, ?_, ?_, ?_⟩, LnOk.nil, Int.le_refl _, Int.le_refl _, Nat.le_refl _, Nat.le_refl _⟩, hB3⟩
  · have := heap_alloc_new ((w.alloc (.map #[] 0)).alloc (.map #[] 0)) (.cells #[.int .i64 0, .map (some w.heap.size), .map (some (w.heap.size + 1))] 54)
    simpa using this
  · exact ((MapAt.made KI encP w).below (below_alloc (Below.refl _ _) _)).below (below_alloc (Below.refl _ _) _)
  · have := (MapAt.made KG (id : Value → Value) (w.alloc (.map #[] 0))).below (below_alloc (Below.refl _ _) (.cells #[.int .i64 0, .map (some w.heap.size), .map (some (w.heap.size + 1))] 54))
    simpa using this
  · intro g v hv; simp [mget] at hv
  · intro g _; rfl
  · intro g g' v v' _ hv; simp [mget] at hv
  · omega
  · exact Nat.le_refl _
  · omega
  · omega

set_option maxHeartbeats 400000 in
theorem laneLen_any (w : World) (ok : Nat → Prop) (lb T : Nat) (s : List En) (h : LnAt w ok lb s T) : Calls Try.prog 18 #[.pointer (some ⟨lb, 0, none⟩)] w fun e w' => e = .returned (.int .i64 s.length) ∧ w = w' := by
  obtain ⟨ma, mg, turn, gs, hV, _⟩ := h
  obtain ⟨t0, t1, t2, hlt⟩ := hV.cells
  have hlen := hV.at_.len under_at 3
  clear hV
  go_enter Try.func18, Try.ntmps18
  go_wp2_with fail
  go_ret
  exact ⟨rfl, rfl⟩
end Go.Proofs.Ytdcifghhamondaa
