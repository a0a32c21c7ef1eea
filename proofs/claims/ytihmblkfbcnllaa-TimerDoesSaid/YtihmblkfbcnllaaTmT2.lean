/- A timer and its copy, side by side; what is due at one time and then at a later one. -/
import Derived.Test.YtihmblkfbcnllaaTmTR
namespace Go.Proofs.Ytihmblkfbcnllaa
open Go.RowKit Go.Proofs.YtihmblkfbcnllaaW.PrintWords

theorem due_two {now later : Int} (h : now ≤ later) : ∀ s : List It, tDue s now + tDue (s.drop (tDue s now)) later = tDue s later
  | [] => rfl
  | p :: s => by
    have ih := due_two h s
    rw [tDue_cons, tDue_cons]
    by_cases h1 : p.2 ≤ now
    · rw [if_pos h1, if_pos (by omega), List.drop_succ_cons]
      omega
    · rw [if_neg h1, List.drop_zero, tDue_cons]
      omega
theorem due_take {now later : Int} (h : now ≤ later) (s : List It) : s.take (tDue s now) ++ (s.drop (tDue s now)).take (tDue (s.drop (tDue s now)) later) = s.take (tDue s later) := by
  rw [← due_two h s, List.take_add]
theorem due_drop {now later : Int} (h : now ≤ later) (s : List It) : (s.drop (tDue s now)).drop (tDue (s.drop (tDue s now)) later) = s.drop (tDue s later) := by
  rw [← due_two h s, List.drop_drop]

/-- A row of the call's own that lies past all that was written. -/
theorem R_past {α : Type} {d : Kd α} {e B : Nat} {w w' : World} {ok S : Nat → Prop} {v : Value} {xs : List α} (h : d.R e w B ok v xs) (hk : Keep S w w') (hS : ∀ k, S k → k < B) : d.R e w' B ok v xs :=
  Kd.R_mono (Kd.R_step (Kd.R_bound h) (fun k hb hl => hk.block k hl (fun hs => by have := hS k hs; have := hb.2.1; omega))) (fun _ hb => hb.1)

/-- A timer of the call's own. -/
structure T1 (w0 w : World) (tb : Nat) (s : List It) : Prop where
  at_ : TmAt w (fun k => w0.heap.size ≤ k) tb s
  belowW : Below w0.heap.size w0 w
theorem T1_new (w : World) : Calls Try.prog 10 #[] w fun e w' => e = .returned (.pointer (some ⟨w.heap.size + 1, 0, none⟩)) ∧ T1 w w' (w.heap.size + 1) [] :=
  Calls.mono (timerNew_any w) fun _ _ h => ⟨h.1, h.2.1, h.2.2⟩
theorem T1.below {w0 w w' : World} {tb : Nat} {s : List It} (h : T1 w0 w tb s) (hb : Below w.heap.size w w') : T1 w0 w' tb s := ⟨h.at_.below hb, h.belowW.trans (hb.mono h.belowW.size)⟩
theorem T1.set {w0 w : World} {tb : Nat} {s : List It} (h : T1 w0 w tb s) (id t : Int) (hw : (Lit.int .i64 id).wf = true) (hs : s.length < 1000000) :
    Calls Try.prog 13 #[.pointer (some ⟨tb, 0, none⟩), .int .i64 id, .int .i64 t] w fun e w' => e = .returned (.tuple #[]) ∧ T1 w0 w' tb (tSet s id t) := by
  refine Calls.mono (timerSet_any w _ tb s id t h.at_ hw hs) ?_
  rintro e w' ⟨h1, h2, h3⟩
  refine ⟨h1, h2.mono (fun k hk _ => ?_), h3.below h.belowW h.belowW.size (fun k _ hk => hk)⟩
  have := h.belowW.size
  rcases hk with hk | hk <;> omega
theorem T1.at_id {w0 w : World} {tb : Nat} {s : List It} (h : T1 w0 w tb s) (id : Int) (hw : (Lit.int .i64 id).wf = true) :
    Calls Try.prog 16 #[.pointer (some ⟨tb, 0, none⟩), .int .i64 id] w fun e w' => e = .returned (.tuple #[.int .i64 (itAt s id).1, .bool (itAt s id).2]) ∧ w = w' := timerAt_any w _ tb s id h.at_ hw

/-- A timer and another, both of the call's own: the one's blocks lie ahead of b1, the other's from b1 to b2. -/
structure TT (w0 w : World) (b1 b2 tt tc : Nat) (st sc : List It) : Prop where
  t : TmAt w (fun k => w0.heap.size ≤ k ∧ k < b1) tt st
  c : TmAt w (fun k => b1 ≤ k ∧ k < b2) tc sc
  le1 : w0.heap.size ≤ b1
  le2 : b1 ≤ b2
  le3 : b2 ≤ w.heap.size
  belowW : Below w0.heap.size w0 w
theorem T1.copy {w0 w : World} {tb : Nat} {s : List It} (h : T1 w0 w tb s) (hs : s.length ≤ 1000000) :
    Calls Try.prog 17 #[.pointer (some ⟨tb, 0, none⟩)] w fun e w' => ∃ cb b1 b2, e = .returned (.pointer (some ⟨cb, 0, none⟩)) ∧ TT w0 w' b1 b2 tb cb s s := by
  refine Calls.mono (timerCopy_any w _ tb s h.at_ hs) ?_
  rintro e w' ⟨cb, rfl, hc, hB⟩
  exact ⟨cb, w.heap.size, w'.heap.size, rfl, (h.at_.mono (fun k hk hl => ⟨hk, hl⟩)).below hB, hc.mono (fun k hk hl => ⟨hk, hl⟩), h.belowW.size, hB.size, Nat.le_refl _, h.belowW.trans (hB.mono h.belowW.size)⟩
theorem TT.past {w0 w w' : World} {b1 b2 tt tc : Nat} {st sc : List It} (h : TT w0 w b1 b2 tt tc st sc) {b : Nat} (hb : b2 ≤ b) (hB : Below b w w') : TT w0 w' b1 b2 tt tc st sc :=
  ⟨h.t.move (fun k hk _ => hB.block k (by have := h.le2; omega)), h.c.move (fun k hk _ => hB.block k (by omega)), h.le1, h.le2, Nat.le_trans h.le3 hB.size, h.belowW.trans (hB.mono (by have := h.le1; have := h.le2; omega))⟩
theorem TT.below {w0 w w' : World} {b1 b2 tt tc : Nat} {st sc : List It} (h : TT w0 w b1 b2 tt tc st sc) (hB : Below w.heap.size w w') : TT w0 w' b1 b2 tt tc st sc := h.past h.le3 hB
theorem TT.dueT {w0 w : World} {b1 b2 tt tc : Nat} {st sc : List It} (h : TT w0 w b1 b2 tt tc st sc) (now : Int) (hs : st.length ≤ 1000000) :
    Calls Try.prog 18 #[.pointer (some ⟨tt, 0, none⟩), .int .i64 now] w fun e w' => ∃ v, e = .returned v ∧ KIt.R 34 w' w.heap.size (fun _ => True) v (st.take (tDue st now)) ∧ TT w0 w' b1 b2 tt tc (st.drop (tDue st now)) sc ∧ Keep (fun k => k < b2) w w' := by
  refine Calls.mono (timerDue_any w _ tt st now h.t hs) ?_
  rintro e w' ⟨v, rfl, hR, hT, hK⟩
  have := h.le2
  exact ⟨v, rfl, hR, ⟨hT.mono (fun k hk _ => hk.1), h.c.kept hK (fun k hk _ hs => by omega), h.le1, h.le2, Nat.le_trans h.le3 hK.size, hK.below h.belowW h.belowW.size (fun k _ hk => hk.1)⟩, hK.mono (fun k _ hk => by omega)⟩
theorem TT.dueC {w0 w : World} {b1 b2 tt tc : Nat} {st sc : List It} (h : TT w0 w b1 b2 tt tc st sc) (now : Int) (hs : sc.length ≤ 1000000) :
    Calls Try.prog 18 #[.pointer (some ⟨tc, 0, none⟩), .int .i64 now] w fun e w' => ∃ v, e = .returned v ∧ KIt.R 34 w' w.heap.size (fun _ => True) v (sc.take (tDue sc now)) ∧ TT w0 w' b1 b2 tt tc st (sc.drop (tDue sc now)) ∧ Keep (fun k => k < b2) w w' := by
  refine Calls.mono (timerDue_any w _ tc sc now h.c hs) ?_
  rintro e w' ⟨v, rfl, hR, hT, hK⟩
  have := h.le1
  exact ⟨v, rfl, hR, ⟨h.t.kept hK (fun k hk _ hs => by omega), hT.mono (fun k hk _ => hk.1), h.le1, h.le2, Nat.le_trans h.le3 hK.size, hK.below h.belowW h.belowW.size (fun k _ hk => by omega)⟩, hK.mono (fun k _ hk => hk.2)⟩
theorem TT.dropC {w0 w : World} {b1 b2 tt tc : Nat} {st sc : List It} (h : TT w0 w b1 b2 tt tc st sc) (id : Int) (hw : (Lit.int .i64 id).wf = true) (hs : sc.length ≤ 1000000) :
    Calls Try.prog 11 #[.pointer (some ⟨tc, 0, none⟩), .int .i64 id] w fun e w' => e = .returned (.bool (hasId sc id)) ∧ TT w0 w' b1 b2 tt tc st (tDrop sc id) := by
  refine Calls.mono (timerDrop_any w _ tc sc id h.c hw hs) ?_
  rintro e w' ⟨rfl, hT, hK⟩
  have := h.le1
  exact ⟨rfl, h.t.kept hK (fun k hk _ hs => by omega), hT, h.le1, h.le2, Nat.le_trans h.le3 hK.size, hK.below h.belowW h.belowW.size (fun k _ hk => by omega)⟩
theorem TT.lenT {w0 w : World} {b1 b2 tt tc : Nat} {st sc : List It} (h : TT w0 w b1 b2 tt tc st sc) : Calls Try.prog 19 #[.pointer (some ⟨tt, 0, none⟩)] w fun e w' => e = .returned (.int .i64 st.length) ∧ w = w' := timerLen_any w _ tt st h.t
theorem TT.lenC {w0 w : World} {b1 b2 tt tc : Nat} {st sc : List It} (h : TT w0 w b1 b2 tt tc st sc) : Calls Try.prog 19 #[.pointer (some ⟨tc, 0, none⟩)] w fun e w' => e = .returned (.int .i64 sc.length) ∧ w = w' := timerLen_any w _ tc sc h.c
theorem TT.atT {w0 w : World} {b1 b2 tt tc : Nat} {st sc : List It} (h : TT w0 w b1 b2 tt tc st sc) (id : Int) (hw : (Lit.int .i64 id).wf = true) :
    Calls Try.prog 16 #[.pointer (some ⟨tt, 0, none⟩), .int .i64 id] w fun e w' => e = .returned (.tuple #[.int .i64 (itAt st id).1, .bool (itAt st id).2]) ∧ w = w' := timerAt_any w _ tt st id h.t hw
end Go.Proofs.Ytihmblkfbcnllaa
