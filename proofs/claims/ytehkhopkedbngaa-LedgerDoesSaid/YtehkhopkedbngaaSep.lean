/- Objects in memory, each with the blocks that are its own: a small calculus of separate footprints. No program in it. -/
import Derived.Test.YtehkhopkedbngaaBase
namespace Go.Proofs.Ytehkhopkedbngaa
open Go.RowKit Go.Proofs.YtehkhopkedbngaaW.PrintWords

/-- Something that lies in the blocks S of a world: it stays while these stay. -/
structure Asn where make ::
  pred : World → (Nat → Prop) → Prop
  mono : ∀ {w : World} {S S' : Nat → Prop}, pred w S → (∀ k, S k → k < w.heap.size → S' k) → pred w S'
  move : ∀ {w w' : World} {S : Nat → Prop}, pred w S → (∀ k, S k → k < w.heap.size → w'.heap[k]? = w.heap[k]?) → pred w' S

/-- Side by side, in blocks of S. -/
def Star : List Asn → World → (Nat → Prop) → Prop
  | [], _, _ => True
  | P :: Ps, w, S => ∃ S1 : Nat → Prop, P.pred w S1 ∧ (∀ k, S1 k → S k ∧ k < w.heap.size) ∧ Star Ps w (fun k => S k ∧ ¬ S1 k)

theorem Star.mono : ∀ {Ps : List Asn} {w : World} {S S' : Nat → Prop}, Star Ps w S → (∀ k, S k → k < w.heap.size → S' k) → Star Ps w S'
  | [], _, _, _, _, _ => trivial
  | _ :: _, _, _, _, ⟨S1, h1, h2, h3⟩, hm => ⟨S1, h1, fun k hk => ⟨hm k (h2 k hk).1 (h2 k hk).2, (h2 k hk).2⟩, Star.mono h3 (fun k hk hl => ⟨hm k hk.1 hl, hk.2⟩)⟩
theorem Star.move : ∀ {Ps : List Asn} {w w' : World} {S : Nat → Prop}, Star Ps w S → (∀ k, S k → k < w.heap.size → w'.heap[k]? = w.heap[k]?) → w.heap.size ≤ w'.heap.size → Star Ps w' S
  | [], _, _, _, _, _, _ => trivial
  | P :: _, _, _, _, ⟨S1, h1, h2, h3⟩, hm, hz => ⟨S1, P.move h1 (fun k hk hl => hm k (h2 k hk).1 hl), fun k hk => ⟨(h2 k hk).1, Nat.lt_of_lt_of_le (h2 k hk).2 hz⟩, Star.move h3 (fun k hk hl => hm k hk.1 hl) hz⟩
theorem Star.below {Ps : List Asn} {w w' : World} {S : Nat → Prop} (h : Star Ps w S) (hB : Below w.heap.size w w') : Star Ps w' S := h.move (fun k _ hl => hB.block k hl) hB.size
theorem Star.kept {Ps : List Asn} {w w' : World} {S T : Nat → Prop} (h : Star Ps w S) (hK : Keep T w w') (hd : ∀ k, S k → k < w.heap.size → ¬ T k) : Star Ps w' S := h.move (fun k hk hl => hK.block k hl (hd k hk hl)) hK.size
theorem Star.one {P : Asn} {w : World} {S : Nat → Prop} (h : P.pred w S) : Star [P] w S := ⟨fun k => S k ∧ k < w.heap.size, P.mono h (fun _ hk hl => ⟨hk, hl⟩), fun _ hk => hk, trivial⟩
theorem Star.append : ∀ {Ps Qs : List Asn} {w : World} {S T : Nat → Prop}, Star Ps w S → Star Qs w T → (∀ k, S k → T k → False) → Star (Ps ++ Qs) w (fun k => S k ∨ T k)
  | [], _, _, _, _, _, h2, _ => Star.mono h2 (fun _ hk _ => .inr hk)
  | P :: Ps, Qs, w, S, T, ⟨S1, h1, h2, h3⟩, h4, hd => by
    refine ⟨S1, h1, fun k hk => ⟨.inl (h2 k hk).1, (h2 k hk).2⟩, ?_⟩
    refine Star.mono (Star.append h3 h4 (fun k hk ht => hd k hk.1 ht)) (fun k hk _ => ?_)
    rcases hk with hk | hk
    · exact ⟨.inl hk.1, hk.2⟩
    · exact ⟨.inr hk, fun h => hd k (h2 k h).1 hk⟩
theorem Star.cons {P : Asn} {Ps : List Asn} {w : World} {S T : Nat → Prop} (h1 : P.pred w S) (h2 : Star Ps w T) (hd : ∀ k, S k → T k → False) : Star (P :: Ps) w (fun k => S k ∨ T k) := Star.append (Star.one h1) h2 hd
theorem Star.head {P : Asn} {Ps : List Asn} {w : World} {S : Nat → Prop} (h : Star (P :: Ps) w S) : P.pred w S := by
  obtain ⟨S1, h1, h2, _⟩ := h
  exact P.mono h1 (fun k hk _ => (h2 k hk).1)
theorem Star.tail {P : Asn} {Ps : List Asn} {w : World} {S : Nat → Prop} (h : Star (P :: Ps) w S) : Star Ps w S := by
  obtain ⟨S1, _, _, h3⟩ := h
  exact h3.mono (fun k hk _ => hk.1)
theorem Star.swap {P Q : Asn} {Ps : List Asn} {w : World} {S : Nat → Prop} (h : Star (P :: Q :: Ps) w S) : Star (Q :: P :: Ps) w S := by
  obtain ⟨S1, h1, h2, S2, h3, h4, h5⟩ := h
  exact ⟨S2, h3, fun k hk => ⟨(h4 k hk).1.1, (h4 k hk).2⟩, S1, h1, fun k hk => ⟨⟨(h2 k hk).1, fun e => (h4 k e).1.2 hk⟩, (h2 k hk).2⟩, h5.mono (fun k hk _ => ⟨⟨hk.1.1, hk.2⟩, hk.1.2⟩)⟩
theorem Star.perm {Ps Qs : List Asn} (hp : Ps.Perm Qs) : ∀ {w : World} {S : Nat → Prop}, Star Ps w S → Star Qs w S := by
  induction hp with
  | nil => exact fun h => h
  | cons P _ ih => rintro w S ⟨S1, h1, h2, h3⟩; exact ⟨S1, h1, h2, ih h3⟩
  | swap P Q Ps => exact fun h => h.swap
  | trans _ _ ih1 ih2 => exact fun h => ih2 (ih1 h)
theorem Star.get {P : Asn} : ∀ {Ps : List Asn} {w : World} {S : Nat → Prop}, Star Ps w S → P ∈ Ps → P.pred w S
  | Q :: Ps, w, S, h, hm => by
    rcases List.mem_cons.1 hm with rfl | hm
    · exact h.head
    · exact h.tail.get hm
/-- The first one is used up by a call that keeps all but its blocks; what is left of it comes in its place. -/
theorem Star.use {P : Asn} {Ps : List Asn} {w : World} {S : Nat → Prop} (h : Star (P :: Ps) w S) :
    ∃ S1 : Nat → Prop, P.pred w S1 ∧ (∀ k, S1 k → S k ∧ k < w.heap.size) ∧ ∀ (w' : World) (Qs : List Asn), Keep S1 w w' → Star Qs w' (fun k => S1 k ∨ w.heap.size ≤ k) → Star (Qs ++ Ps) w' (fun k => S k ∨ w.heap.size ≤ k) := by
  obtain ⟨S1, h1, h2, h3⟩ := h
  refine ⟨S1, h1, h2, fun w' Qs hK hQ => ?_⟩
  have h4 := (h3.mono (S' := fun k => (S k ∧ ¬ S1 k) ∧ k < w.heap.size) (fun k hk hl => ⟨hk, hl⟩)).kept hK (fun k hk _ => hk.1.2)
  refine (Star.append hQ h4 (fun k hk ht => ?_)).mono (fun k hk _ => ?_)
  · rcases hk with hk | hk
    · exact ht.1.2 hk
    · have := ht.2; omega
  · rcases hk with (hk | hk) | hk
    · exact .inl (h2 k hk).1
    · exact .inr hk
    · exact .inl hk.1.1

/-- Since w0 these have come; what was there is as it was. -/
def Hp (w0 w : World) (Ps : List Asn) : Prop := Below w0.heap.size w0 w ∧ Star Ps w (fun k => w0.heap.size ≤ k)
section
variable {w0 w w' : World} {P Q : Asn} {Ps Qs : List Asn}
theorem Hp.nil (w : World) : Hp w w [] := ⟨Below.refl _ _, trivial⟩
theorem Hp.of (h : Below w0.heap.size w0 w) : Hp w0 w [] := ⟨h, trivial⟩
theorem Hp.belowW (h : Hp w0 w Ps) : Below w0.heap.size w0 w := h.1
theorem Hp.below (h : Hp w0 w Ps) (hB : Below w.heap.size w w') : Hp w0 w' Ps := ⟨h.1.trans (hB.mono h.1.size), h.2.below hB⟩
theorem Hp.get (h : Hp w0 w Ps) (hm : P ∈ Ps) : P.pred w (fun k => w0.heap.size ≤ k) := h.2.get hm
theorem Hp.head (h : Hp w0 w (P :: Ps)) : P.pred w (fun k => w0.heap.size ≤ k) := h.2.head
theorem Hp.tail (h : Hp w0 w (P :: Ps)) : Hp w0 w Ps := ⟨h.1, h.2.tail⟩
theorem Hp.swap (h : Hp w0 w (P :: Q :: Ps)) : Hp w0 w (Q :: P :: Ps) := ⟨h.1, h.2.swap⟩
theorem Hp.perm (h : Hp w0 w Ps) (hp : Ps.Perm Qs) : Hp w0 w Qs := ⟨h.1, h.2.perm hp⟩
theorem Hp.swap2 {R : Asn} (h : Hp w0 w (P :: Q :: R :: Ps)) : Hp w0 w (P :: R :: Q :: Ps) := h.perm ((List.Perm.swap R Q Ps).cons P)
theorem Hp.up2 {R : Asn} (h : Hp w0 w (P :: Q :: R :: Ps)) : Hp w0 w (R :: P :: Q :: Ps) := h.swap2.swap
theorem Hp.up3 {R T : Asn} (h : Hp w0 w (P :: Q :: R :: T :: Ps)) : Hp w0 w (T :: P :: Q :: R :: Ps) := (h.perm (((List.Perm.swap T R Ps).cons Q).cons P)).up2
theorem Hp.down2 {R : Asn} (h : Hp w0 w (P :: Q :: R :: Ps)) : Hp w0 w (Q :: R :: P :: Ps) := h.swap.swap2
/-- A new one, behind a call that changes nothing. -/
theorem Hp.fresh (h : Hp w0 w Ps) (hB : Below w.heap.size w w') (hQ : Q.pred w' (fun k => w.heap.size ≤ k)) : Hp w0 w' (Q :: Ps) := by
  have hz := h.1.size
  refine ⟨h.1.trans (hB.mono hz), ?_⟩
  have h2 := (h.2.mono (S' := fun k => w0.heap.size ≤ k ∧ k < w.heap.size) (fun k hk hl => ⟨hk, hl⟩)).below hB
  exact (Star.cons hQ h2 (fun k h1 h2 => by omega)).mono (fun k hk _ => by omega)
/-- The first one is used up; what is left of it comes in its place. -/
theorem Hp.use (h : Hp w0 w (P :: Ps)) : ∃ S1 : Nat → Prop, P.pred w S1 ∧ (∀ k, S1 k → w0.heap.size ≤ k ∧ k < w.heap.size) ∧ ∀ (w' : World) (Qs : List Asn), Keep S1 w w' → Star Qs w' (fun k => S1 k ∨ w.heap.size ≤ k) → Hp w0 w' (Qs ++ Ps) := by
  obtain ⟨S1, h1, h2, h3⟩ := h.2.use
  refine ⟨S1, h1, h2, fun w' Qs hK hQ => ⟨hK.below h.1 h.1.size (fun k _ hk => (h2 k hk).1), (h3 w' Qs hK hQ).mono (fun k hk _ => ?_)⟩⟩
  have := h.1.size
  rcases hk with hk | hk <;> omega
theorem Hp.use1 (h : Hp w0 w (P :: Ps)) : ∃ S1 : Nat → Prop, P.pred w S1 ∧ ∀ (w' : World) (Q : Asn), Keep S1 w w' → Q.pred w' (fun k => S1 k ∨ w.heap.size ≤ k) → Hp w0 w' (Q :: Ps) := by
  obtain ⟨S1, h1, _, h3⟩ := h.use
  exact ⟨S1, h1, fun w' Q hK hQ => h3 w' [Q] hK (Star.one hQ)⟩
end

/-- A block that holds o. -/
def ABlk (g : Nat) (o : Obj) : Asn where
  pred w S := S g ∧ w.heap[g]? = some o
  mono h hm := ⟨hm g h.1 (Array.getElem?_eq_some_iff.1 h.2).1, h.2⟩
  move h hm := ⟨h.1, (hm g h.1 (Array.getElem?_eq_some_iff.1 h.2).1).trans h.2⟩
theorem Hp.alloc {w0 w : World} {Ps : List Asn} (h : Hp w0 w Ps) (o : Obj) : Hp w0 (w.alloc o) (ABlk w.heap.size o :: Ps) := h.fresh (below_alloc (Below.refl _ _) _) ⟨Nat.le_refl _, heap_alloc_new w o⟩
theorem Hp.blk {w0 w : World} {Ps : List Asn} {g : Nat} {o : Obj} (h : Hp w0 w Ps) (hm : ABlk g o ∈ Ps) : w.heap[g]? = some o := (h.get hm).2
theorem Hp.blk0 {w0 w : World} {Ps : List Asn} {g : Nat} {o : Obj} (h : Hp w0 w (ABlk g o :: Ps)) : w.heap[g]? = some o := h.blk (List.mem_cons_self ..)
theorem Hp.blk1 {w0 w : World} {P : Asn} {Ps : List Asn} {g : Nat} {o : Obj} (h : Hp w0 w (P :: ABlk g o :: Ps)) : w.heap[g]? = some o := h.tail.blk0
theorem Hp.blk2 {w0 w : World} {P Q : Asn} {Ps : List Asn} {g : Nat} {o : Obj} (h : Hp w0 w (P :: Q :: ABlk g o :: Ps)) : w.heap[g]? = some o := h.tail.blk1
theorem Hp.blk3 {w0 w : World} {P Q R : Asn} {Ps : List Asn} {g : Nat} {o : Obj} (h : Hp w0 w (P :: Q :: R :: ABlk g o :: Ps)) : w.heap[g]? = some o := h.tail.blk2
theorem Hp.forget {w0 w : World} {Ps : List Asn} (h : Hp w0 w Ps) : Hp w0 w [] := ⟨h.1, trivial⟩
theorem Star.only1 {w : World} {S : Nat → Prop} {P : Asn} {Ps : List Asn} (h : Star (P :: Ps) w S) : Star [P] w S := by
  obtain ⟨S1, h1, h2, _⟩ := h
  exact ⟨S1, h1, h2, trivial⟩
theorem Hp.only1 {w0 w : World} {P : Asn} {Ps : List Asn} (h : Hp w0 w (P :: Ps)) : Hp w0 w [P] := ⟨h.1, h.2.only1⟩
theorem Hp.only2 {w0 w : World} {P Q : Asn} {Ps : List Asn} (h : Hp w0 w (P :: Q :: Ps)) : Hp w0 w [P, Q] := by
  obtain ⟨h1, S1, h2, h3, h4⟩ := h
  exact ⟨h1, S1, h2, h3, h4.only1⟩
theorem Hp.drop1 {w0 w : World} {P Q : Asn} {Ps : List Asn} (h : Hp w0 w (P :: Q :: Ps)) : Hp w0 w (P :: Ps) := h.swap.tail
theorem Hp.drop2 {w0 w : World} {P Q R : Asn} {Ps : List Asn} (h : Hp w0 w (P :: Q :: R :: Ps)) : Hp w0 w (P :: Q :: Ps) := h.up2.tail
/-- A row of the call's own. -/
def ARow {α : Type} (d : Kd α) (e : Nat) (v : Value) (xs : List α) : Asn where
  pred w S := d.R e w 0 S v xs
  mono h hm := Kd.R_mono (Kd.R_bound h) (fun k hk => hm k hk.1 hk.2.2.1)
  move h hm := Kd.R_step h hm
theorem Hp.row {α : Type} {d : Kd α} {e : Nat} {w0 w w' : World} {Ps : List Asn} {ok : Nat → Prop} {v : Value} {xs : List α} (h : Hp w0 w Ps) (hB : Below w.heap.size w w') (hR : d.R e w' w.heap.size ok v xs) : Hp w0 w' (ARow d e v xs :: Ps) :=
  h.fresh hB (Kd.R_lower (Kd.R_mono (Kd.R_bound hR) (fun _ hk => hk.2.1)) (Nat.zero_le _))
/-- A row of the call's own, ahead of an append and behind it. -/
theorem Hp.appended {α : Type} {d : Kd α} {e : Nat} {w0 W : World} {Ps : List Asn} {v : Value} {xs : List α} (h : Hp w0 W (ARow d e v xs :: Ps)) :
    ∃ ok : Nat → Prop, d.R e W 0 ok v xs ∧ (∀ k, W.heap.size ≤ k → ok k) ∧ ∀ (v1 : Value) (w1 : World) (ys : List α), d.R e w1 0 ok v1 ys → W.grownBy w1 v.ownBlock → Hp w0 w1 (ARow d e v1 ys :: Ps) := by
  obtain ⟨S1, h1, h2⟩ := h.use1
  have h1 : d.R e W 0 S1 v xs := h1
  refine ⟨fun k => S1 k ∨ W.heap.size ≤ k, Kd.R_mono h1 (fun _ hk => .inl hk), fun _ hk => .inr hk, fun v1 w1 ys hR hg => h2 w1 (ARow d e v1 ys) ⟨hg.os, hg.tape, hg.output, hg.size, fun k hk hn => hg.block k hk (fun e' => hn (h1.1 k e'.symm))⟩ hR⟩
end Go.Proofs.Ytehkhopkedbngaa
