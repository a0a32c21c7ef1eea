/- Two timers and a map of ints, and the row of a list set one by one. -/
import Derived.Test.YtihmblkfbcnllaaTmSort
import Derived.Test.YtihmblkfbcnllaaTmSame
namespace Go.Proofs.Ytihmblkfbcnllaa
open Go.RowKit Go.Proofs.YtihmblkfbcnllaaW.PrintWords

theorem under_seen : Try.prog.underlying 46 = some (.map 3 4) := Try.underlying46
theorem zero_bool (w : World) : (zeroValue 4).run Try.prog w = .ok (.bool false) w := by kernel_rfl

/-! plain law -/
theorem snoc_ind {C : List It → Prop} (h0 : C []) (h1 : ∀ l x, C l → C (l ++ [x])) (l : List It) : C l := by
  rw [← List.reverse_reverse l]
  induction l.reverse with
  | nil => exact h0
  | cons x l ih => rw [List.reverse_cons]; exact h1 _ _ ih
def tAll (l : List It) : List It := l.foldl (fun s x => tSet s x.1 x.2) []
theorem tAll_snoc (l : List It) (x : It) : tAll (l ++ [x]) = tSet (tAll l) x.1 x.2 := by simp [tAll]
theorem tAll_len (l : List It) : (tAll l).length ≤ l.length := by
  induction l using snoc_ind with
  | h0 => simp [tAll]
  | h1 l x ih =>
    rw [tAll_snoc, List.length_append, List.length_singleton]
    have := tSet_len (tAll l) x.1 x.2
    omega
theorem tDrop_all {s : List It} {id : Int} (h : id ∉ s.map (·.1)) : tDrop s id = s := by
  unfold tDrop
  rw [List.filter_eq_self]
  intro p hp
  have : p.1 ≠ id := fun e => h (List.mem_map.2 ⟨p, hp, e⟩)
  simpa using this
theorem tAll_perm (l : List It) (h : (l.map (·.1)).Nodup) : (tAll l).Perm l := by
  induction l using snoc_ind with
  | h0 => exact List.Perm.refl _
  | h1 l x ih =>
    rw [List.map_append, List.nodup_append] at h
    have hp := ih h.1
    rw [tAll_snoc]
    have hx : x.1 ∉ (tAll l).map (·.1) := fun hm => h.2.2 x.1 ((hp.map _).mem_iff.1 hm) x.1 (by simp) rfl
    unfold tSet
    rw [tDrop_all hx]
    exact (tIns_perm _ _).trans ((List.Perm.cons _ hp).trans (List.perm_append_singleton x l).symm)
theorem tAll_row (l : List It) : tRow (tAll l) := by
  induction l using snoc_ind with
  | h0 => exact ⟨List.Pairwise.nil, List.Pairwise.nil⟩
  | h1 l x ih =>
    rw [tAll_snoc]
    exact tSet_row ih _ _
theorem tAll_rev {l : List It} (h : (l.map (·.1)).Nodup) : tAll l.reverse = tAll l := by
  have h2 : (l.reverse.map (·.1)).Nodup := by rw [List.map_reverse]; exact List.pairwise_reverse.2 (List.Pairwise.imp (fun hn => Ne.symm hn) h)
  exact row_unique (tAll_row _).1 (tAll_row _).1 ((tAll_perm _ h2).trans ((List.reverse_perm l).trans (tAll_perm _ h).symm))
theorem tDue_every {s : List It} {now : Int} (h : ∀ p ∈ s, p.2 ≤ now) : tDue s now = s.length := by
  induction s with
  | nil => rfl
  | cons p s ih => rw [tDue_cons, if_pos (h p (by simp)), ih (fun q hq => h q (List.mem_cons_of_mem _ hq)), List.length_cons]
/-- Which have been seen. -/
def SeenIs (ps : List (Int × Bool)) (l : List It) : Prop := ∀ id, mget ps id = if id ∈ l.map (·.1) then some true else none
theorem SeenIs.snoc {ps : List (Int × Bool)} {l : List It} (h : SeenIs ps l) (x : It) : SeenIs (mput ps x.1 true) (l ++ [x]) := by
  intro id
  have hm : id ∈ (l ++ [x]).map (·.1) ↔ id ∈ l.map (·.1) ∨ id = x.1 := by
    rw [List.map_append, List.mem_append, List.map_cons, List.map_nil, List.mem_singleton]
  by_cases e : id = x.1
  · rw [if_pos (hm.2 (.inr e)), e, mget_put_same]
  · rw [mget_put_other ps true e, h id]
    by_cases hi : id ∈ l.map (·.1)
    · rw [if_pos hi, if_pos (hm.2 (.inl hi))]
    · rw [if_neg hi, if_neg (fun hh => (hm.1 hh).elim hi e)]

/-! the walk -/
structure T3 (w0 w : World) (ta tb mb : Nat) (sa sb : List It) (ps : List (Int × Bool)) : Prop where
  ex : ∃ okA okB : Nat → Prop, TmAt w okA ta sa ∧ TmAt w okB tb sb ∧ (∀ k, okA k → w0.heap.size ≤ k ∧ ¬ okB k ∧ k ≠ mb) ∧ (∀ k, okB k → w0.heap.size ≤ k ∧ k ≠ mb)
  map : MapAt KI Value.bool w mb ps
  mb0 : w0.heap.size ≤ mb
  belowW : Below w0.heap.size w0 w
theorem T3.below {w0 w w' : World} {ta tb mb : Nat} {sa sb : List It} {ps : List (Int × Bool)} (h : T3 w0 w ta tb mb sa sb ps) (hB : Below w.heap.size w w') : T3 w0 w' ta tb mb sa sb ps := by
  obtain ⟨⟨okA, okB, h1, h2, h3, h4⟩, h5, h6, h7⟩ := h
  exact ⟨⟨okA, okB, h1.below hB, h2.below hB, h3, h4⟩, h5.below hB, h6, h7.trans (hB.mono h7.size)⟩
theorem T3.put {w0 w w' : World} {ta tb mb : Nat} {sa sb : List It} {ps ps' : List (Int × Bool)} (h : T3 w0 w ta tb mb sa sb ps) (hM : MapAt KI Value.bool w' mb ps') (hB : ButB w w' mb) : T3 w0 w' ta tb mb sa sb ps' := by
  obtain ⟨⟨okA, okB, h1, h2, h3, h4⟩, h5, h6, h7⟩ := h
  exact ⟨⟨okA, okB, h1.move (fun k hk _ => hB.2.2.2.2 k (h3 k hk).2.2), h2.move (fun k hk _ => hB.2.2.2.2 k (h4 k hk).2), h3, h4⟩, hM, h6, hB.below h7 h6⟩
theorem T3.setA {w0 w : World} {ta tb mb : Nat} {sa sb : List It} {ps : List (Int × Bool)} (h : T3 w0 w ta tb mb sa sb ps) (id t : Int) (hw : (Lit.int .i64 id).wf = true) (hs : sa.length < 1000000) :
    Calls Try.prog 13 #[.pointer (some ⟨ta, 0, none⟩), .int .i64 id, .int .i64 t] w fun e w' => e = .returned (.tuple #[]) ∧ T3 w0 w' ta tb mb (tSet sa id t) sb ps := by
  obtain ⟨⟨okA, okB, h1, h2, h3, h4⟩, h5, h6, h7⟩ := h
  refine Calls.mono (timerSet_any w okA ta sa id t h1 hw hs) ?_
  rintro e w' ⟨rfl, hT, hK⟩
  have hz := h7.size
  have hml := h5.lt
  refine ⟨rfl, ⟨fun k => okA k ∨ w.heap.size ≤ k, fun k => okB k ∧ k < w.heap.size, hT, (h2.mono (fun k hk hl => ⟨hk, hl⟩)).kept hK (fun k hk _ ha => (h3 k ha).2.1 hk.1), fun k hk => ?_, fun k hk => h4 k hk.1⟩, h5.move (hK.block mb hml (fun ha => (h3 mb ha).2.2 rfl)), h6, hK.below h7 h7.size (fun k _ hk => (h3 k hk).1)⟩
  rcases hk with hk | hk
  · exact ⟨(h3 k hk).1, fun hb => (h3 k hk).2.1 hb.1, (h3 k hk).2.2⟩
  · exact ⟨by omega, fun hb => by have := hb.2; omega, by omega⟩
theorem T3.setB {w0 w : World} {ta tb mb : Nat} {sa sb : List It} {ps : List (Int × Bool)} (h : T3 w0 w ta tb mb sa sb ps) (id t : Int) (hw : (Lit.int .i64 id).wf = true) (hs : sb.length < 1000000) :
    Calls Try.prog 13 #[.pointer (some ⟨tb, 0, none⟩), .int .i64 id, .int .i64 t] w fun e w' => e = .returned (.tuple #[]) ∧ T3 w0 w' ta tb mb sa (tSet sb id t) ps := by
  obtain ⟨⟨okA, okB, h1, h2, h3, h4⟩, h5, h6, h7⟩ := h
  refine Calls.mono (timerSet_any w okB tb sb id t h2 hw hs) ?_
  rintro e w' ⟨rfl, hT, hK⟩
  have hz := h7.size
  have hml := h5.lt
  refine ⟨rfl, ⟨fun k => okA k ∧ k < w.heap.size, fun k => okB k ∨ w.heap.size ≤ k, (h1.mono (fun k hk hl => ⟨hk, hl⟩)).kept hK (fun k hk _ hb => (h3 k hk.1).2.1 hb), hT, fun k hk => ⟨(h3 k hk.1).1, fun hb => ?_, (h3 k hk.1).2.2⟩, fun k hk => ?_⟩, h5.move (hK.block mb hml (fun ha => (h4 mb ha).2 rfl)), h6, hK.below h7 h7.size (fun k _ hk => (h4 k hk).1)⟩
  · rcases hb with hb | hb
    · exact (h3 k hk.1).2.1 hb
    · have := hk.2; omega
  · rcases hk with hk | hk
    · exact h4 k hk
    · exact ⟨by omega, by omega⟩
theorem T3.all {w0 w : World} {ta tb mb : Nat} {sa sb : List It} {ps : List (Int × Bool)} (h : T3 w0 w ta tb mb sa sb ps) (hs : sa.length ≤ 1000000) :
    Calls Try.prog 20 #[.pointer (some ⟨ta, 0, none⟩)] w fun e w' => ∃ A c, e = .returned (.slice A sa.length c) ∧ KIt.R 34 w' w.heap.size (fun _ => True) (.slice A sa.length c) sa ∧ Below w.heap.size w w' := by
  obtain ⟨⟨okA, okB, h1, h2, h3, h4⟩, h5, h6, h7⟩ := h
  exact timerAll_any w okA ta sa h1 hs
theorem T3.due {w0 w : World} {ta tb mb : Nat} {sa sb : List It} {ps : List (Int × Bool)} (now : Int) (hs : sb.length ≤ 1000000) {e : Nat} {A : Option Addr} {c b : Nat} {l : List It} (hR : KIt.R e w b (fun _ => True) (.slice A l.length c) l) (hb : ∃ wp : World, T3 w0 wp ta tb mb sa sb ps ∧ Below wp.heap.size wp w ∧ wp.heap.size ≤ b) :
    Calls Try.prog 18 #[.pointer (some ⟨tb, 0, none⟩), .int .i64 now] w fun r w' => ∃ v, r = .returned v ∧ KIt.R 34 w' w.heap.size (fun _ => True) v (sb.take (tDue sb now)) ∧ KIt.C w' A l.length l ∧ Below w0.heap.size w0 w' ∧ ∃ okB, TmAt w' okB tb (sb.drop (tDue sb now)) := by
  obtain ⟨wp, hp, hB, hle⟩ := hb
  obtain ⟨⟨okA, okB, h1, h2, h3, h4⟩, h5, h6, h7⟩ := hp
  have h2' := (h2.mono (ok' := fun k => okB k ∧ k < wp.heap.size) (fun k hk hl => ⟨hk, hl⟩)).below hB
  refine Calls.mono (timerDue_any w _ tb sb now h2' hs) ?_
  rintro r w' ⟨v, rfl, hR2, hT, hK⟩
  exact ⟨v, rfl, hR2, (Kd.R_reads' (R_past hR hK (fun k hk => Nat.lt_of_lt_of_le hk.2 hle))).2.2, hK.below (h7.trans (hB.mono h7.size)) (h7.trans (hB.mono h7.size)).size (fun k _ hk => (h4 k hk.1).1), _, hT⟩
end Go.Proofs.Ytihmblkfbcnllaa
