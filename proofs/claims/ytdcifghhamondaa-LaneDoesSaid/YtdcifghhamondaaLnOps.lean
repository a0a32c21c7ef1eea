/- The calls of layer 6's statements, as they lie in memory; where a thing stands. -/
import Derived.Test.YtdcifghhamondaaLnAwake
import Derived.Test.YtdcifghhamondaaOpen
namespace Go.Proofs.Ytdcifghhamondaa
open Go.RowKit Go.Proofs.YtdcifghhamondaaW.PrintWords

/-- A call: Kind, Id, Group. -/
abbrev Op := Int × (Int × ByteArray)
def KOp : Kd Op := Kd.pair (Kd.int .i64) (Kd.pair (Kd.int .i64) Kd.string)
def OpOk (x : Op) : Prop := (Lit.int .i64 x.1).wf = true ∧ (Lit.int .i64 x.2.1).wf = true ∧ x.2.2.size ≤ maxLen
theorem C_nth_op {w : World} {A : Option Addr} {n : Nat} {xs : List Op} (h : KOp.C w A n xs) (k : Nat) (hk : k < n) :
    ∃ ad kind id g, A = some ad ∧ xs[k]? = some (kind, (id, g)) ∧ w.cell? (ad.add (k * 3)) = some (.int .i64 kind) ∧ w.cell? ⟨(ad.add (k * 3)).block, (ad.add (k * 3)).off + 1, none⟩ = some (.int .i64 id) ∧ w.cell? ⟨(ad.add (k * 3)).block, (ad.add (k * 3)).off + 2, none⟩ = some (.string g) := by
  obtain ⟨ad, ⟨kind, id, g⟩, c, hA, hx, _, ⟨c0, c1, rfl, h0, ⟨c2, c3, rfl, h2, h4⟩⟩, h3⟩ := C_nth h k hk
  have h0 : c0 = [.int .i64 kind] := h0
  have h2 : c2 = [.int .i64 id] := h2
  have h4 : c3 = [.string g] := h4
  subst h0 h2 h4
  refine ⟨ad, kind, id, g, hA, hx, ?_, ?_, ?_⟩
  · have := h3 0 _ rfl; exact this
  · have := h3 1 _ rfl; rw [← add_field ad _ 1 (by omega)]; exact this
  · have := h3 2 _ rfl; rw [← add_field ad _ 2 (by omega)]; exact this
theorem en_at {s : List En} (hn : (s.map (·.1)).Nodup) {id : Int} {v : ByteArray × Int} (hm : mget s id = some v) : ∃ j : Nat, (th s)[j]? = some (v.1, id) ∧ thAt (th s) id = j := by
  have hmem := mget_some hm
  obtain ⟨j, hj, e⟩ := List.getElem_of_mem hmem
  have hx : (th s)[j]? = some (v.1, id) := by
    unfold th
    rw [List.getElem?_map, List.getElem?_eq_getElem hj, e]
    rfl
  refine ⟨j, hx, thAt_some hx rfl (fun p hp e2 => ?_)⟩
  unfold th at hp
  rw [← List.map_take] at hp
  obtain ⟨q, hq, rfl⟩ := List.mem_map.1 hp
  have e2 : q.1 = id := e2
  have hs : s = s.take j ++ s.drop j := (List.take_append_drop j s).symm
  rw [hs, List.map_append, List.nodup_append] at hn
  have hd : (id, v) ∈ s.drop j := by rw [List.drop_eq_getElem_cons hj, e]; exact List.mem_cons_self ..
  exact hn.2.2 q.1 (List.mem_map.2 ⟨q, hq, rfl⟩) id (List.mem_map.2 ⟨_, hd, rfl⟩) e2
theorem en_at_none {s : List En} {id : Int} (hm : mget s id = none) : thAt (th s) id = -1 := thAt_none (fun p hp e => by
  obtain ⟨q, hq, rfl⟩ := List.mem_map.1 hp
  exact mget_none.1 hm q hq e)
theorem lAdd_len (s : List En) (g : ByteArray) (id t : Int) : (lAdd s g id t).length ≤ s.length + 1 := by unfold lAdd; split <;> simp
theorem groupOf_some {s : List En} {id : Int} {v : ByteArray × Int} (h : mget s id = some v) : groupOf s id = (v.1, true) := by unfold groupOf; rw [h]
theorem groupOf_none {s : List En} {id : Int} (h : mget s id = none) : groupOf s id = (ByteArray.empty, false) := by unfold groupOf; rw [h]
theorem headOf_of (l : List Int) : l = [] ∨ ∃ x l', l = x :: l' := by cases l with | nil => exact .inl rfl | cons x l' => exact .inr ⟨x, l', rfl⟩
end Go.Proofs.Ytdcifghhamondaa
