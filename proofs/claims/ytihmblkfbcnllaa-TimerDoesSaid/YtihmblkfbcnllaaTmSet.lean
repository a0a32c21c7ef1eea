/- A timer by what it holds, in order; New, Len, Next, At, Set by their contracts. -/
import Derived.Test.YtihmblkfbcnllaaTmDown
namespace Go.Proofs.Ytihmblkfbcnllaa
open Go.RowKit Go.Maps Go.Proofs.YtihmblkfbcnllaaW.PrintWords

structure TmOk (l : List It) (ps : List (Int × Int)) (s : List It) : Prop where
  pos : Pos l ps
  heap : Heap2 l
  perm : l.Perm s
  row : s.Pairwise tLt
  wf : ∀ p ∈ s, (Lit.int .i64 p.1).wf = true
/-- A timer (its block tb) that holds s. -/
def TmAt (w : World) (ok : Nat → Prop) (tb : Nat) (s : List It) : Prop := ∃ v mb l ps, TmV w ok tb v mb l ps ∧ TmOk l ps s
theorem TmOk.nodup {l : List It} {ps : List (Int × Int)} {s : List It} (h : TmOk l ps s) : (s.map (·.1)).Nodup := (h.perm.map _).nodup_iff.1 h.pos.nodup
theorem TmAt.trow {w : World} {ok : Nat → Prop} {tb : Nat} {s : List It} (h : TmAt w ok tb s) : tRow s := by
  obtain ⟨_, _, _, _, _, h⟩ := h
  exact ⟨h.row, h.nodup⟩
theorem TmAt.wf {w : World} {ok : Nat → Prop} {tb : Nat} {s : List It} (h : TmAt w ok tb s) : ∀ p ∈ s, (Lit.int .i64 p.1).wf = true := by
  obtain ⟨_, _, _, _, _, h⟩ := h
  exact h.wf
theorem TmV.bound {w : World} {ok : Nat → Prop} {tb : Nat} {v : Value} {mb : Nat} {l : List It} {ps : List (Int × Int)} (h : TmV w ok tb v mb l ps) {ok' : Nat → Prop} (hm : ∀ k, ok k → k < w.heap.size → ok' k) : TmV w ok' tb v mb l ps :=
  ⟨h.hd, Kd.R_mono (Kd.R_bound h.row) (fun k hk => ⟨hm k hk.1.1 hk.2.2.1, hk.1.2⟩), h.map, hm tb h.oktb (blk_lt h.hd), hm mb h.okmb h.map.lt⟩
theorem TmAt.mono {w : World} {ok : Nat → Prop} {tb : Nat} {s : List It} (h : TmAt w ok tb s) {ok' : Nat → Prop} (hm : ∀ k, ok k → k < w.heap.size → ok' k) : TmAt w ok' tb s := by
  obtain ⟨v, mb, l, ps, h1, h2⟩ := h
  exact ⟨v, mb, l, ps, h1.bound hm, h2⟩
theorem TmAt.move {w w' : World} {ok : Nat → Prop} {tb : Nat} {s : List It} (h : TmAt w ok tb s) (hm : ∀ k, ok k → k < w.heap.size → w'.heap[k]? = w.heap[k]?) : TmAt w' ok tb s := by
  obtain ⟨v, mb, l, ps, h1, h2⟩ := h
  exact ⟨v, mb, l, ps, h1.move hm, h2⟩
theorem TmAt.below {w w' : World} {ok : Nat → Prop} {tb : Nat} {s : List It} (h : TmAt w ok tb s) (hb : Below w.heap.size w w') : TmAt w' ok tb s := h.move (fun k _ hk => hb.block k hk)
theorem TmAt.kept {w w' : World} {ok S : Nat → Prop} {tb : Nat} {s : List It} (h : TmAt w ok tb s) (hk : Keep S w w') (hd : ∀ k, ok k → k < w.heap.size → ¬ S k) : TmAt w' ok tb s := h.move (fun k ho hl => hk.block k hl (hd k ho hl))
theorem TmAt.lt {w : World} {ok : Nat → Prop} {tb : Nat} {s : List It} (h : TmAt w ok tb s) : tb < w.heap.size := by
  obtain ⟨v, mb, l, ps, h1, h2⟩ := h
  exact blk_lt h1.hd
theorem TmAt.okt {w : World} {ok : Nat → Prop} {tb : Nat} {s : List It} (h : TmAt w ok tb s) : ok tb := by
  obtain ⟨v, mb, l, ps, h1, h2⟩ := h
  exact h1.oktb
theorem TmV.row_ok {w : World} {ok : Nat → Prop} {tb : Nat} {v : Value} {mb : Nat} {l : List It} {ps : List (Int × Int)} (h : TmV w ok tb v mb l ps) : ∀ k, TmS v mb k → ok k := by
  rintro k (rfl | hk)
  · exact h.okmb
  · exact (h.row.1 k hk).1

set_option maxHeartbeats 400000 in
theorem timerNew_any (w : World) : Calls Try.prog 10 #[] w fun e w' => e = .returned (.pointer (some ⟨w.heap.size + 1, 0, none⟩)) ∧ TmAt w' (fun k => w.heap.size ≤ k) (w.heap.size + 1) [] ∧ Below w.heap.size w w' := by
  have hmm := @run_makeMap Try.prog
  go_enter Try.func10, Try.ntmps10
  go_wp2
  go_ret
  have hB : Below w.heap.size w ((w.alloc (.map #[] 0)).alloc (.cells #[.slice none 0 0, .map (some w.heap.size)] 55)) := below_alloc (below_alloc (Below.refl _ _) _) _
  refine ⟨rfl, ⟨.slice none 0 0, w.heap.size, [], [], ⟨?_, Kd.R_nil _ _ _ _ _, ?_, by omega, Nat.le_refl _⟩, ⟨?_, ?_, List.Perm.refl _, List.Pairwise.nil, by simp⟩⟩, hB⟩
  · exact heap_new_at _ _ _ (by simp)
  · exact (MapAt.made KI (.int .i64) w).below (below_alloc (Below.refl _ _) _)
  · intro id j
    constructor
    · intro h; cases h
    · rintro ⟨m, _, h⟩; simp at h
  · intro i a b _ h
    simp at h

set_option maxHeartbeats 400000 in
theorem timerLen_any (w : World) (ok : Nat → Prop) (tb : Nat) (s : List It) (h : TmAt w ok tb s) : Calls Try.prog 19 #[.pointer (some ⟨tb, 0, none⟩)] w fun e w' => e = .returned (.int .i64 s.length) ∧ w = w' := by
  obtain ⟨v, mb, l, ps, hT, hO⟩ := h
  rw [← hO.perm.length_eq]
  obtain ⟨A, c, rfl, hl, hC⟩ := Kd.R_reads hT.row
  have t0 := blk_cell hT.hd 0
  simp only [List.getElem?_toArray, List.getElem?_cons_zero] at t0
  have htl := blk_lt hT.hd
  clear hT hO
  go_enter Try.func19, Try.ntmps19
  go_wp2
  go_ret
  exact ⟨rfl, rfl⟩

/-- The first of a row, and whether there is one. -/
def itFirst (s : List It) : It × Bool := match s with | [] => ((0, 0), false) | x :: _ => (x, true)
set_option maxHeartbeats 400000 in
theorem timerNext_any (w : World) (ok : Nat → Prop) (tb : Nat) (s : List It) (h : TmAt w ok tb s) : Calls Try.prog 15 #[.pointer (some ⟨tb, 0, none⟩)] w fun e w' => e = .returned (.tuple #[.agg #[.int .i64 (itFirst s).1.1, .int .i64 (itFirst s).1.2], .bool (itFirst s).2]) ∧ Below w.heap.size w w' := by
  obtain ⟨v, mb, l, ps, hT, hO⟩ := h
  have hm := head_min hO.heap hO.perm hO.row
  cases s with
  | nil =>
    have hl0 : l = [] := List.perm_nil.1 hO.perm
    subst hl0
    obtain ⟨A, c, rfl, hl, hC⟩ := Kd.R_reads hT.row
    have t0 := blk_cell hT.hd 0
    simp only [List.getElem?_toArray, List.getElem?_cons_zero] at t0
    have htl := blk_lt hT.hd
    clear hT hO hm
    go_enter Try.func15, Try.ntmps15
    go_wp2
    exact bodyPost_ret (v := .tuple #[.agg #[.int .i64 0, .int .i64 0], .bool false]) (by simp [results, Try.results15, go_sem]) rfl ⟨rfl, (Below.refl _ _).alloc (Nat.le_refl _) _⟩
  | cons x s =>
    have hx : l[0]? = some x := hm
    have hne : ¬ (l.length : Int) = 0 := by
      have := (List.getElem?_eq_some_iff.1 hx).1
      omega
    have hneb : ((l.length : Int) == 0) = false := by simpa using hne
    have hpos : (0 : Int) < (l.length : Int) := by omega
    obtain ⟨g, cap, rfl, hgl, htl, t0, e0, e1, hlc, hlm⟩ := hT.cells hx
    simp only [Nat.zero_mul, Nat.zero_add] at e0 e1
    clear hT hO hm hx
    go_enter Try.func15, Try.ntmps15
    go_wp2
    exact bodyPost_ret (v := .tuple #[.agg #[.int .i64 x.1, .int .i64 x.2], .bool true]) (by simp [results, Try.results15, go_sem]) rfl ⟨rfl, (Below.refl _ _).alloc (Nat.le_refl _) _⟩

/-- A thing's time, and whether it is there. -/
def itAt (s : List It) (id : Int) : Int × Bool := match s.find? (fun p => decide (p.1 = id)) with | some p => (p.2, true) | none => (0, false)
theorem itAt_some {s : List It} (hn : (s.map (·.1)).Nodup) {id t : Int} (h : (id, t) ∈ s) : itAt s id = (t, true) := by
  have := mget_mem hn h
  unfold mget at this
  unfold itAt
  obtain ⟨p, hp, e⟩ := Option.map_eq_some_iff.1 this
  rw [hp]
  simp only at e ⊢
  rw [e]
theorem itAt_none {s : List It} {id : Int} (h : ∀ p ∈ s, p.1 ≠ id) : itAt s id = (0, false) := by
  unfold itAt
  rw [List.find?_eq_none.2 (fun p hp => by simpa using h p hp)]
theorem TmV.look {w : World} {ok : Nat → Prop} {tb : Nat} {v : Value} {mb : Nat} {l : List It} {ps : List (Int × Int)} (h : TmV w ok tb v mb l ps) {id : Int} (hw : (Lit.int .i64 id).wf = true) :
    (Instr.lookup 53 (.map (some mb)) (.int .i64 id) true).run Try.prog w = .ok (.tuple #[((mget ps id).map (Value.int .i64)).getD (.int .i64 0), .bool (mget ps id).isSome]) w := h.map.look under_map (zero_int w) (a := id) hw
theorem TmV.look1 {w : World} {ok : Nat → Prop} {tb : Nat} {v : Value} {mb : Nat} {l : List It} {ps : List (Int × Int)} (h : TmV w ok tb v mb l ps) {id : Int} (hw : (Lit.int .i64 id).wf = true) :
    (Instr.lookup 53 (.map (some mb)) (.int .i64 id) false).run Try.prog w = .ok (((mget ps id).map (Value.int .i64)).getD (.int .i64 0)) w := h.map.look1 under_map (zero_int w) (a := id) hw
theorem TmV.tcells {w : World} {ok : Nat → Prop} {tb : Nat} {v : Value} {mb : Nat} {l : List It} {ps : List (Int × Int)} (h : TmV w ok tb v mb l ps) : w.cell? ⟨tb, 0, none⟩ = some v ∧ w.cell? ⟨tb, 1, none⟩ = some (.map (some mb)) ∧ tb < w.heap.size := by
  have t0 := blk_cell h.hd 0
  have t1 := blk_cell h.hd 1
  exact ⟨t0, t1, blk_lt h.hd⟩
theorem TmOk.there {l : List It} {ps : List (Int × Int)} {s : List It} (h : TmOk l ps s) {id j : Int} (hj : mget ps id = some j) : ∃ (m : Nat) (t : Int), j = m ∧ l[m]? = some (id, t) ∧ m < l.length ∧ (id, t) ∈ s := by
  obtain ⟨m, t, h1, h2, h3⟩ := h.pos.at hj
  exact ⟨m, t, h1, h2, h3, h.perm.mem_iff.1 (List.mem_of_getElem? h2)⟩
theorem TmOk.not {l : List It} {ps : List (Int × Int)} {s : List It} (h : TmOk l ps s) {id : Int} (hj : mget ps id = none) : ∀ p ∈ s, p.1 ≠ id := by
  intro p hp
  obtain ⟨m, hm⟩ := List.getElem?_of_mem (h.perm.mem_iff.2 hp)
  exact h.pos.none hj hm
set_option maxHeartbeats 400000 in
theorem timerAt_any (w : World) (ok : Nat → Prop) (tb : Nat) (s : List It) (id : Int) (h : TmAt w ok tb s) (hw : (Lit.int .i64 id).wf = true) : Calls Try.prog 16 #[.pointer (some ⟨tb, 0, none⟩), .int .i64 id] w fun e w' => e = .returned (.tuple #[.int .i64 (itAt s id).1, .bool (itAt s id).2]) ∧ w = w' := by
  obtain ⟨v, mb, l, ps, hT, hO⟩ := h
  have hlk := hT.look hw
  cases hj : mget ps id with
  | none =>
    rw [hj] at hlk
    have hlk : (Instr.lookup 53 (.map (some mb)) (.int .i64 id) true).run Try.prog w = .ok (.tuple #[.int .i64 0, .bool false]) w := hlk
    rw [itAt_none (hO.not hj)]
    obtain ⟨t0, t1, htl⟩ := hT.tcells
    clear hT hO hj
    go_enter Try.func16, Try.ntmps16
    go_wp2
    go_ret2
    exact ⟨rfl, rfl⟩
  | some j =>
    obtain ⟨m, t, rfl, hm, hml, hs⟩ := hO.there hj
    rw [hj] at hlk
    have hlk : (Instr.lookup 53 (.map (some mb)) (.int .i64 id) true).run Try.prog w = .ok (.tuple #[.int .i64 (m : Int), .bool true]) w := hlk
    rw [itAt_some hO.nodup hs]
    obtain ⟨_, t1, _⟩ := hT.tcells
    obtain ⟨g, cap, rfl, hgl, htl, t0, e0, e1, hlc, hlm⟩ := hT.cells hm
    have i0 : (0 : Int) ≤ (m : Int) := by omega
    have i1 : (m : Int) < (l.length : Int) := by omega
    clear hT hO hj hm hs
    go_enter Try.func16, Try.ntmps16
    go_wp2
    go_ret2
    exact ⟨rfl, rfl⟩
end Go.Proofs.Ytihmblkfbcnllaa
