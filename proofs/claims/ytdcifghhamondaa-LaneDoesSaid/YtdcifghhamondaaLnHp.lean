/- A lane, and a row of the document's, among what a law holds: what each call leaves; and 'awake'. -/
import Derived.Test.YtdcifghhamondaaSep
import Derived.Test.YtdcifghhamondaaLnLook
import Derived.Test.YtdcifghhamondaaLnDrop
import Derived.Test.YtdcifghhamondaaLnAll
import Derived.Test.YtdcifghhamondaaLnHeads
import Derived.Test.YtdcifghhamondaaLnRefs
namespace Go.Proofs.Ytdcifghhamondaa
open Go.RowKit Go.Proofs.YtdcifghhamondaaW.PrintWords

def ALn (lb : Nat) (s : List En) (T : Nat) : Asn where
  pred w S := LnAt w S lb s T
  mono h hm := h.mono hm
  move h hm := h.move hm
abbrev ATh (v : Value) (r : List Th) : Asn := ARow KTh 38 v r
section
variable {w0 w : World} {lb T : Nat} {s : List En} {Ps : List Asn}
theorem Hp.lnIds (h : Hp w0 w (ALn lb s T :: Ps)) : (s.map (·.1)).Nodup := LnAt.ids h.head
theorem Hp.lnWf (h : Hp w0 w (ALn lb s T :: Ps)) : ∀ p ∈ s, (Lit.int .i64 p.1).wf = true := by
  obtain ⟨ma, mg, turn, gs, h1, _⟩ := h.head
  exact fun p hp => h1.at_.oks p hp
theorem Hp.lnLen (h : Hp w0 w (ALn lb s T :: Ps)) : s.length ≤ T := by
  obtain ⟨ma, mg, turn, gs, h1, h2, h3, h4, h5, h6⟩ := h.head
  exact h6
theorem Hp.lnT (h : Hp w0 w (ALn lb s T :: Ps)) {T' : Nat} (hT : T ≤ T') : Hp w0 w (ALn lb s T' :: Ps) := by
  obtain ⟨S1, h1, h2⟩ := h.use1
  refine h2 w _ (Keep.refl _ _) (LnAt.mono ?_ (fun k hk _ => .inl hk))
  obtain ⟨ma, mg, turn, gs, a1, a2, a3, a4, a5, a6⟩ := h1
  exact ⟨ma, mg, turn, gs, a1, a2, a3, by omega, by omega, by omega⟩
theorem Hp.lnNew (h : Hp w0 w Ps) : Calls Try.prog 9 #[] w fun e w' => e = .returned (.pointer (some ⟨w.heap.size + 2, 0, none⟩)) ∧ Hp w0 w' (ALn (w.heap.size + 2) [] 0 :: Ps) := by
  refine Calls.mono (laneNew_any w) ?_
  rintro e w' ⟨rfl, hL, hB⟩
  exact ⟨rfl, h.fresh hB hL⟩
theorem Hp.lnAdd (h : Hp w0 w (ALn lb s T :: Ps)) (g : ByteArray) (id : Int) (hw : (Lit.int .i64 id).wf = true) (hg : g.size ≤ maxLen) (hT : T ≤ 1000000) :
    Calls Try.prog 12 #[.pointer (some ⟨lb, 0, none⟩), .string g, .int .i64 id] w fun e w' => e = .returned (.bool (!hasEn s id)) ∧ ∃ t, Hp w0 w' (ALn lb (lAdd s g id t) (T + 1) :: Ps) := by
  obtain ⟨S1, h1, h2⟩ := h.use1
  refine Calls.mono (laneAdd_any w S1 lb T s g id h1 hw hg hT) ?_
  rintro e w' ⟨rfl, ⟨t, hL⟩, hK⟩
  exact ⟨rfl, t, h2 w' _ hK hL⟩
theorem Hp.lnDrop (h : Hp w0 w (ALn lb s T :: Ps)) (id : Int) (hw : (Lit.int .i64 id).wf = true) (hT : T ≤ 1000000) :
    Calls Try.prog 10 #[.pointer (some ⟨lb, 0, none⟩), .int .i64 id] w fun e w' => e = .returned (.bool (hasEn s id)) ∧ Hp w0 w' (ALn lb (lDrop s id) T :: Ps) := by
  obtain ⟨S1, h1, h2⟩ := h.use1
  refine Calls.mono (laneDrop_any w S1 lb T s id h1 hw hT) ?_
  rintro e w' ⟨rfl, hL, hK⟩
  exact ⟨rfl, h2 w' _ hK (hL.mono (fun k hk _ => .inl hk))⟩
theorem Hp.lnLenC (h : Hp w0 w (ALn lb s T :: Ps)) : Calls Try.prog 18 #[.pointer (some ⟨lb, 0, none⟩)] w fun e w' => e = .returned (.int .i64 s.length) ∧ w = w' := laneLen_any w _ lb T s h.head
theorem Hp.lnAll (h : Hp w0 w (ALn lb s T :: Ps)) (hT : T ≤ 1000000) :
    Calls Try.prog 19 #[.pointer (some ⟨lb, 0, none⟩)] w fun e w' => ∃ A c, e = .returned (.slice A s.length c) ∧ Hp w0 w' (ARow (Kd.int .i64) 3 (.slice A s.length c) (s.map (·.1)) :: ALn lb s T :: Ps) := by
  refine Calls.mono (laneAll_any w _ lb T s h.head hT) ?_
  rintro e w' ⟨A, c, rfl, hR, hB⟩
  exact ⟨A, c, rfl, h.row hB hR⟩
theorem Hp.lnHeads (h : Hp w0 w (ALn lb s T :: Ps)) (hT : T ≤ 1000000) :
    Calls Try.prog 21 #[.pointer (some ⟨lb, 0, none⟩)] w fun e w' => ∃ A c, e = .returned (.slice A (lHeads s).length c) ∧ Hp w0 w' (ARow (Kd.int .i64) 3 (.slice A (lHeads s).length c) ((lHeads s).map (·.1)) :: ALn lb s T :: Ps) := by
  refine Calls.mono (laneHeads_any w _ lb T s h.head hT) ?_
  rintro e w' ⟨A, c, rfl, hR, hB⟩
  exact ⟨A, c, rfl, h.row hB hR⟩
theorem Hp.lnOf (h : Hp w0 w (ALn lb s T :: Ps)) (g : ByteArray) (hg : g.size ≤ maxLen) (hT : T ≤ 1000000) :
    Calls Try.prog 20 #[.pointer (some ⟨lb, 0, none⟩), .string g] w fun e w' => ∃ A c, e = .returned (.slice A (grp s g).length c) ∧ Hp w0 w' (ARow (Kd.int .i64) 3 (.slice A (grp s g).length c) (grp s g) :: ALn lb s T :: Ps) := by
  refine Calls.mono (laneOf_any w _ lb T s g h.head hg hT) ?_
  rintro e w' ⟨A, c, rfl, hR, hB⟩
  exact ⟨A, c, rfl, h.row hB hR⟩
theorem Hp.lnGroup (h : Hp w0 w (ALn lb s T :: Ps)) (id : Int) (hw : (Lit.int .i64 id).wf = true) :
    Calls Try.prog 14 #[.pointer (some ⟨lb, 0, none⟩), .int .i64 id] w fun e w' => e = .returned (.tuple #[.string (groupOf s id).1, .bool (groupOf s id).2]) ∧ Hp w0 w' (ALn lb s T :: Ps) := by
  refine Calls.mono (laneGroup_any w _ lb T s id h.head hw) ?_
  rintro e w' ⟨rfl, hB⟩
  exact ⟨rfl, h.below hB⟩
theorem Hp.lnHead (h : Hp w0 w (ALn lb s T :: Ps)) (g : ByteArray) (hg : g.size ≤ maxLen) :
    Calls Try.prog 16 #[.pointer (some ⟨lb, 0, none⟩), .string g] w fun e w' => e = .returned (.tuple #[.int .i64 (headOf (grp s g)).1, .bool (headOf (grp s g)).2]) ∧ w = w' := laneHead_any w _ lb T s g h.head hg
theorem Hp.lnCopy (h : Hp w0 w (ALn lb s T :: Ps)) (hT : T ≤ 1000000) :
    Calls Try.prog 22 #[.pointer (some ⟨lb, 0, none⟩)] w fun e w' => ∃ cb, e = .returned (.pointer (some ⟨cb, 0, none⟩)) ∧ Hp w0 w' (ALn cb s T :: ALn lb s T :: Ps) := by
  refine Calls.mono (laneCopy_any w _ lb T s h.head hT) ?_
  rintro e w' ⟨cb, rfl, hL, hB⟩
  exact ⟨cb, rfl, h.fresh hB hL⟩
end
theorem R_raise {e : Nat} {w : World} {b : Nat} {ok : Nat → Prop} {v : Value} {xs : List Th} (h : KTh.R e w 0 ok v xs) (hb : ∀ k, ok k → b ≤ k) : KTh.R e w b ok v xs := by
  obtain ⟨h0, inner, ⟨h1, h2⟩, r1, r2⟩ := h
  refine ⟨h0, inner, ⟨h1, ?_⟩, r1, fun j x hj => r2 j x hj⟩
  rcases h2 with h2 | ⟨g, cap, cur, h3, h4, h5⟩
  · exact .inl h2
  · exact .inr ⟨g, cap, cur, h3, hb g (h0 g (by rw [h3]; rfl)), h5⟩
section
variable {w0 w : World} {Ps : List Asn} {v : Value} {r : List Th}
theorem Hp.thNil (h : Hp w0 w Ps) : Hp w0 w (ATh (.slice none 0 0) [] :: Ps) := h.fresh (Below.refl _ _) (Kd.R_nil _ _ _ _ _)
theorem Hp.thRow (h : Hp w0 w (ATh v r :: Ps)) : ∃ A c, v = .slice A r.length c ∧ r.length ≤ c ∧ KTh.C w A r.length r := Kd.R_reads h.head
theorem Hp.refAdd (h : Hp w0 w (ATh v r :: Ps)) (g : ByteArray) (id : Int) (hl : r.length ≤ 100000) :
    Calls Try.prog 13 #[v, .string g, .int .i64 id] w fun e w' => ∃ A c, e = .returned (.tuple #[.slice A (thAdd r g id).length c, .bool (!thHas r id)]) ∧ Hp w0 w' (ATh (.slice A (thAdd r g id).length c) (thAdd r g id) :: Ps) := by
  obtain ⟨S1, h1, hS, h2⟩ := h.use
  refine Calls.mono (refAdd_any S1 v r g id w0 w h.belowW (R_raise h1 (fun k hk => (hS k hk).1)) hl) ?_
  rintro e w' ⟨v', rfl, hR, hB, hK⟩
  obtain ⟨A, c, rfl⟩ := Kd.R_slice hR
  exact ⟨A, c, rfl, h2 w' [_] ⟨hB.os.trans h.belowW.os.symm, hB.tape.trans h.belowW.tape.symm, hB.output.trans h.belowW.output.symm, hK.1, hK.2⟩ (Star.one (Kd.R_lower hR (Nat.zero_le _)))⟩
theorem Hp.refDrop (h : Hp w0 w (ATh v r :: Ps)) (id : Int) (hl : r.length ≤ 100000) :
    Calls Try.prog 11 #[v, .int .i64 id] w fun e w' => ∃ A c, e = .returned (.tuple #[.slice A (thDrop r id).length c, .bool (decide ((thDrop r id).length < r.length))]) ∧ Hp w0 w' (ATh (.slice A (thDrop r id).length c) (thDrop r id) :: Ps) := by
  obtain ⟨A, c, rfl, hc, hC⟩ := h.thRow
  refine Calls.mono (refDrop_any A _ c r id w hC hc hl) ?_
  rintro e w' ⟨v', rfl, hR, hB⟩
  obtain ⟨A', c', rfl⟩ := Kd.R_slice hR
  exact ⟨A', c', rfl, h.tail.row hB hR⟩
theorem Hp.refOf (h : Hp w0 w (ATh v r :: Ps)) (g : ByteArray) (hl : r.length ≤ 100000) :
    Calls Try.prog 17 #[v, .string g] w fun e w' => ∃ A c, e = .returned (.slice A (thOf r g).length c) ∧ Hp w0 w' (ARow (Kd.int .i64) 3 (.slice A (thOf r g).length c) (thOf r g) :: ATh v r :: Ps) := by
  obtain ⟨A, c, rfl, hc, hC⟩ := h.thRow
  refine Calls.mono (refOf_any A _ c r g w hC hc hl) ?_
  rintro e w' ⟨v', rfl, hR, hB⟩
  obtain ⟨A', c', rfl⟩ := Kd.R_slice hR
  exact ⟨A', c', rfl, h.row hB hR⟩
theorem Hp.refHeads (h : Hp w0 w (ATh v r :: Ps)) (hl : r.length ≤ 100000) :
    Calls Try.prog 24 #[v] w fun e w' => ∃ A c, e = .returned (.slice A (thH [] r).length c) ∧ Hp w0 w' (ARow (Kd.int .i64) 3 (.slice A (thH [] r).length c) (thH [] r) :: ATh v r :: Ps) := by
  obtain ⟨A, c, rfl, hc, hC⟩ := h.thRow
  refine Calls.mono (refHeads_any A _ c r w hC hc hl) ?_
  rintro e w' ⟨v', rfl, hR, hB⟩
  obtain ⟨A', c', rfl⟩ := Kd.R_slice hR
  exact ⟨A', c', rfl, h.row hB hR⟩
theorem Hp.refAt (h : Hp w0 w (ATh v r :: Ps)) (id : Int) :
    Calls Try.prog 15 #[v, .int .i64 id] w fun e w' => e = .returned (.int .i64 (thAt r id)) ∧ Hp w0 w' (ATh v r :: Ps) := by
  obtain ⟨A, c, rfl, hc, hC⟩ := h.thRow
  refine Calls.mono (refAt_any A _ c r id w hC) ?_
  rintro e w' ⟨rfl, hB⟩
  exact ⟨rfl, h.below hB⟩
theorem Hp.sameI {A1 A2 : Option Addr} {n1 n2 c1 c2 : Nat} {xs : List Int} (h : Hp w0 w Ps) (h1 : ARow (Kd.int .i64) 3 (.slice A1 n1 c1) xs ∈ Ps) (h2 : ARow (Kd.int .i64) 3 (.slice A2 n2 c2) xs ∈ Ps) :
    Calls Try.prog 23 #[.slice A1 n1 c1, .slice A2 n2 c2] w fun e w' => e = .returned (.bool true) ∧ Hp w0 w' Ps := by
  obtain ⟨e1, _, hC1⟩ := Kd.R_reads' (h.get h1)
  obtain ⟨e2, _, hC2⟩ := Kd.R_reads' (h.get h2)
  obtain rfl : n1 = n2 := e1.trans e2.symm
  rw [← e1] at hC1 hC2
  refine Calls.mono (same_yes A1 n1 c1 xs A2 c2 w hC1 hC2) ?_
  rintro e w' ⟨rfl, hB⟩
  exact ⟨rfl, h.below hB⟩
end
end Go.Proofs.Ytdcifghhamondaa
