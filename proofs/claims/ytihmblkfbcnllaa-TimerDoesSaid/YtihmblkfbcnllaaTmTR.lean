/- A timer and a row of the document's, both of the law's own: what each call leaves of both; and 'awake'. -/
import Derived.Test.YtihmblkfbcnllaaTmRef
namespace Go.Proofs.Ytihmblkfbcnllaa
open Go.RowKit Go.Proofs.YtihmblkfbcnllaaW.PrintWords

theorem C_nth_it {w : World} {A : Option Addr} {n : Nat} {xs : List It} (h : KIt.C w A n xs) (k : Nat) (hk : k < n) :
    ∃ ad x, A = some ad ∧ xs[k]? = some x ∧ w.cell? (ad.add (k * 2)) = some (.int .i64 x.1) ∧ w.cell? ⟨(ad.add (k * 2)).block, (ad.add (k * 2)).off + 1, none⟩ = some (.int .i64 x.2) := by
  obtain ⟨ad, x, c, hA, hx, _, ⟨c0, c1, rfl, h0, h1⟩, h3⟩ := C_nth h k hk
  have h0 : c0 = [.int .i64 x.1] := h0
  have h1 : c1 = [.int .i64 x.2] := h1
  subst h0 h1
  refine ⟨ad, x, hA, hx, ?_, ?_⟩
  · have := h3 0 _ rfl; exact this
  · have := h3 1 _ rfl; rw [← add_field ad _ 1 (by omega)]; exact this
/-- Since w0: a timer (block tb) that holds s, and a row v that reads r; what was there is as it was. -/
def TR (w0 w : World) (tb : Nat) (v : Value) (s r : List It) (G : List (Nat × Obj)) : Prop :=
  ∃ ok : Nat → Prop, TmAt w ok tb s ∧ KIt.R 37 w 0 (fun k => w0.heap.size ≤ k ∧ ¬ ok k) v r ∧ (∀ k, ok k → w0.heap.size ≤ k) ∧ Below w0.heap.size w0 w ∧ ∀ g ∈ G, ¬ ok g.1 ∧ w.heap[g.1]? = some g.2
section
variable {w0 w w' : World} {tb : Nat} {v : Value} {s r s' r' : List It} {G : List (Nat × Obj)}
theorem TR.belowW (h : TR w0 w tb v s r G) : Below w0.heap.size w0 w := by
  obtain ⟨_, _, _, _, h, _⟩ := h
  exact h
theorem TR.below (h : TR w0 w tb v s r G) (hB : Below w.heap.size w w') : TR w0 w' tb v s r G := by
  obtain ⟨ok, h1, h2, h3, h4, h5⟩ := h
  exact ⟨ok, h1.below hB, Kd.R_below h2 hB, h3, h4.trans (hB.mono h4.size), fun g hg => ⟨(h5 g hg).1, (hB.block g.1 (blk_lt (h5 g hg).2)).trans (h5 g hg).2⟩⟩
theorem TR.get (h : TR w0 w tb v s r G) {g : Nat} {o : Obj} (hg : (g, o) ∈ G) : w.heap[g]? = some o := by
  obtain ⟨_, _, _, _, _, h⟩ := h
  exact (h _ hg).2
theorem TR.forget (h : TR w0 w tb v s r G) : TR w0 w tb v s r [] := by
  obtain ⟨ok, h1, h2, h3, h4, _⟩ := h
  exact ⟨ok, h1, h2, h3, h4, by simp⟩
theorem TR.alloc (h : TR w0 w tb v s r G) (o : Obj) : TR w0 (w.alloc o) tb v s r ((w.heap.size, o) :: G) := by
  obtain ⟨ok, h1, h2, h3, h4, h5⟩ := h
  have hB : Below w.heap.size w (w.alloc o) := below_alloc (Below.refl _ _) _
  refine ⟨fun k => ok k ∧ k < w.heap.size, (h1.mono (fun k hk hl => ⟨hk, hl⟩)).below hB, Kd.R_mono (Kd.R_below h2 hB) (fun k hk => ⟨hk.1, fun h => hk.2 h.1⟩), fun k hk => h3 k hk.1, h4.trans (hB.mono h4.size), fun g hg => ?_⟩
  rcases List.mem_cons.1 hg with rfl | hg
  · exact ⟨fun h => absurd h.2 (Nat.lt_irrefl _), heap_alloc_new w o⟩
  · exact ⟨fun h => (h5 g hg).1 h.1, (hB.block g.1 (blk_lt (h5 g hg).2)).trans (h5 g hg).2⟩
theorem TR.trow (h : TR w0 w tb v s r G) : tRow s := by
  obtain ⟨_, h1, _⟩ := h
  exact h1.trow
theorem TR.wf (h : TR w0 w tb v s r G) : ∀ p ∈ s, (Lit.int .i64 p.1).wf = true := by
  obtain ⟨_, h1, _⟩ := h
  exact h1.wf
theorem TR.row (h : TR w0 w tb v s r G) : ∃ A c, v = .slice A r.length c ∧ r.length ≤ c ∧ KIt.C w A r.length r := by
  obtain ⟨_, _, h2, _⟩ := h
  exact Kd.R_reads h2
/-- The timer alone was turned, by a call that keeps all but it. -/
theorem TR.turn {ok ok' : Nat → Prop} (h1 : KIt.R 37 w 0 (fun k => w0.heap.size ≤ k ∧ ¬ ok k) v r) (h2 : ∀ k, ok k → w0.heap.size ≤ k) (h3 : Below w0.heap.size w0 w)
    (h5 : ∀ g ∈ G, ¬ ok g.1 ∧ w.heap[g.1]? = some g.2) (hT : TmAt w' ok' tb s') (hK : Keep ok w w') (ho : ∀ k, ok' k → ok k ∨ w.heap.size ≤ k) : TR w0 w' tb v s' r G := by
  refine ⟨ok', hT, Kd.R_mono (Kd.R_step (Kd.R_bound h1) (fun k hk hl => hK.block k hl hk.1.2)) (fun k hk => ⟨hk.1.1, fun h => ?_⟩), fun k hk => ?_, hK.below h3 h3.size (fun k _ hk => h2 k hk), fun g hg => ⟨fun h => ?_, (hK.block g.1 (blk_lt (h5 g hg).2) (h5 g hg).1).trans (h5 g hg).2⟩⟩
  · rcases ho k h with h | h
    · exact hk.1.2 h
    · have := hk.2.2.1; omega
  · rcases ho k hk with h | h
    · exact h2 k h
    · exact Nat.le_trans h3.size h
  · rcases ho g.1 h with h | h
    · exact (h5 g hg).1 h
    · have := blk_lt (h5 g hg).2
      omega
theorem TR.set (h : TR w0 w tb v s r G) (id t : Int) (hw : (Lit.int .i64 id).wf = true) (hs : s.length < 1000000) :
    Calls Try.prog 13 #[.pointer (some ⟨tb, 0, none⟩), .int .i64 id, .int .i64 t] w fun e w' => e = .returned (.tuple #[]) ∧ TR w0 w' tb v (tSet s id t) r G := by
  obtain ⟨ok, h1, h2, h3, h4, h5⟩ := h
  refine (timerSet_any w ok tb s id t h1 hw hs).mono ?_
  rintro e w' ⟨rfl, hT, hK⟩
  exact ⟨rfl, TR.turn h2 h3 h4 h5 hT hK (fun _ h => h)⟩
theorem TR.drop (h : TR w0 w tb v s r G) (id : Int) (hw : (Lit.int .i64 id).wf = true) (hs : s.length ≤ 1000000) :
    Calls Try.prog 11 #[.pointer (some ⟨tb, 0, none⟩), .int .i64 id] w fun e w' => e = .returned (.bool (hasId s id)) ∧ TR w0 w' tb v (tDrop s id) r G := by
  obtain ⟨ok, h1, h2, h3, h4, h5⟩ := h
  refine (timerDrop_any w ok tb s id h1 hw hs).mono ?_
  rintro e w' ⟨rfl, hT, hK⟩
  exact ⟨rfl, TR.turn h2 h3 h4 h5 hT hK (fun _ h => .inl h)⟩
theorem TR.next (h : TR w0 w tb v s r G) :
    Calls Try.prog 15 #[.pointer (some ⟨tb, 0, none⟩)] w fun e w' => e = .returned (.tuple #[.agg #[.int .i64 (itFirst s).1.1, .int .i64 (itFirst s).1.2], .bool (itFirst s).2]) ∧ TR w0 w' tb v s r G := by
  have h0 := h
  obtain ⟨ok, h1, h2, h3, h4, h5⟩ := h
  refine (timerNext_any w ok tb s h1).mono ?_
  rintro e w' ⟨rfl, hB⟩
  exact ⟨rfl, h0.below hB⟩
theorem TR.at_ (h : TR w0 w tb v s r G) (id : Int) (hw : (Lit.int .i64 id).wf = true) :
    Calls Try.prog 16 #[.pointer (some ⟨tb, 0, none⟩), .int .i64 id] w fun e w' => e = .returned (.tuple #[.int .i64 (itAt s id).1, .bool (itAt s id).2]) ∧ w = w' := by
  obtain ⟨ok, h1, _⟩ := h
  exact timerAt_any w ok tb s id h1 hw
theorem TR.len (h : TR w0 w tb v s r G) : Calls Try.prog 19 #[.pointer (some ⟨tb, 0, none⟩)] w fun e w' => e = .returned (.int .i64 s.length) ∧ w = w' := by
  obtain ⟨ok, h1, _⟩ := h
  exact timerLen_any w ok tb s h1
/-- The document's row is a new one. -/
theorem TR.newRow (h : TR w0 w tb v s r G) {v' : Value} (hR : KIt.R 37 w' w.heap.size (fun _ => True) v' r') (hB : Below w.heap.size w w') : TR w0 w' tb v' s r' G := by
  obtain ⟨ok, h1, h2, h3, h4, h5⟩ := h
  refine ⟨fun k => ok k ∧ k < w.heap.size, (h1.mono (fun k hk hl => ⟨hk, hl⟩)).below hB, Kd.R_mono (R_fresh hR) (fun k hk => ⟨?_, fun ho => ?_⟩), fun k hk => h3 k hk.1, h4.trans (hB.mono h4.size), fun g hg => ⟨fun h => (h5 g hg).1 h.1, (hB.block g.1 (blk_lt (h5 g hg).2)).trans (h5 g hg).2⟩⟩
  · exact Nat.le_trans h4.size hk.1
  · have := hk.1; have := ho.2; omega
theorem TR.refSet (h : TR w0 w tb v s r G) {A : Option Addr} {n c : Nat} (hv : v = .slice A n c) (id t : Int) (hl : r.length ≤ 100000) :
    Calls Try.prog 14 #[.slice A n c, .int .i64 id, .int .i64 t] w fun e w' => ∃ A' c', e = .returned (.slice A' (tSet r id t).length c') ∧ TR w0 w' tb (.slice A' (tSet r id t).length c') s (tSet r id t) G := by
  obtain ⟨A1, c1, e1, hc, hC⟩ := h.row
  rw [hv] at e1
  injection e1 with e1 e2 e3
  subst e1 e2 e3
  refine (refSet_any A _ c r id t w hC hc hl).mono ?_
  rintro e w' ⟨v', rfl, hR, hB⟩
  obtain ⟨A', c', rfl⟩ := Kd.R_slice hR
  exact ⟨A', c', rfl, h.newRow hR hB⟩
theorem TR.refDrop (h : TR w0 w tb v s r G) {A : Option Addr} {n c : Nat} (hv : v = .slice A n c) (id : Int) (hl : r.length ≤ 100000) :
    Calls Try.prog 12 #[.slice A n c, .int .i64 id] w fun e w' => ∃ A' c', e = .returned (.slice A' (tDrop r id).length c') ∧ TR w0 w' tb (.slice A' (tDrop r id).length c') s (tDrop r id) G := by
  obtain ⟨A1, c1, e1, hc, hC⟩ := h.row
  rw [hv] at e1
  injection e1 with e1 e2 e3
  subst e1 e2 e3
  refine (refDrop_any A _ c r id w hC hc hl).mono ?_
  rintro e w' ⟨v', rfl, hR, hB⟩
  obtain ⟨A', c', rfl⟩ := Kd.R_slice hR
  exact ⟨A', c', rfl, h.newRow hR hB⟩
end
theorem TR_new (w0 w : World) (hB : Below w0.heap.size w0 w) : Calls Try.prog 10 #[] w fun e w' => e = .returned (.pointer (some ⟨w.heap.size + 1, 0, none⟩)) ∧ TR w0 w' (w.heap.size + 1) (.slice none 0 0) [] [] [] := by
  refine (timerNew_any w).mono ?_
  rintro e w' ⟨rfl, hT, hB'⟩
  exact ⟨rfl, _, hT, Kd.R_nil _ _ _ _ _, fun k hk => Nat.le_trans hB.size hk, hB.trans (hB'.mono hB.size), by simp⟩
theorem tSet_len (s : List It) (id t : Int) : (tSet s id t).length ≤ s.length + 1 := by
  unfold tSet
  rw [(tIns_perm _ _).length_eq, List.length_cons]
  have := List.length_filter_le (fun p : It => decide (p.1 ≠ id)) s
  unfold tDrop
  omega
theorem tDrop_len (s : List It) (id : Int) : (tDrop s id).length ≤ s.length := List.length_filter_le _ _

set_option maxHeartbeats 800000 in
set_option maxRecDepth 100000 in
theorem awake_any (w : World) : Calls Try.prog 9 #[] w fun e w' => e = .returned (.bool true) ∧ Below w.heap.size w w' := by
  go_enter Try.func9, Try.ntmps9
  go_wp2_with fail
  refine Calls.mono (TR_new w _ (Below.refl _ _)) ?_
  rintro e w1 ⟨rfl, hP1⟩
  generalize w.heap.size + 1 = tb at *
  go_wp2_with fail
  refine Calls.mono (hP1.set 1 5 (by decide) (by simp)) ?_
  rintro e w2 ⟨rfl, hP2⟩
  go_wp2_with fail
  refine Calls.mono (hP2.set 2 3 (by decide) (by decide)) ?_
  rintro e w3 ⟨rfl, hP3⟩
  go_wp2_with fail
  refine Calls.mono (hP3.set 3 5 (by decide) (by decide)) ?_
  rintro e w4 ⟨rfl, hP4⟩
  rw [show tSet (tSet (tSet [] 1 5) 2 3) 3 5 = [(2, 3), (1, 5), (3, 5)] by decide] at hP4
  obtain ⟨ok, hT, _, h3, hB, _⟩ := hP4
  go_wp2_with fail
  refine Calls.mono (timerDue_any w4 ok tb _ 5 hT (by decide)) ?_
  rintro e w5 ⟨v, rfl, hR, hT5, hK5⟩
  rw [show tDue [(2, 3), (1, 5), (3, 5)] 5 = 3 by decide] at hR hT5
  obtain ⟨A, c, rfl, hc, hC⟩ := Kd.R_reads hR
  obtain ⟨ad, x0, rfl, hx0, d0, _⟩ := C_nth_it hC 0 (by decide)
  obtain ⟨ad1, x1, ha1, hx1, d1, _⟩ := C_nth_it hC 1 (by decide)
  obtain ⟨ad2, x2, ha2, hx2, d2, _⟩ := C_nth_it hC 2 (by decide)
  obtain rfl := Option.some.inj ha1
  obtain rfl := Option.some.inj ha2
  obtain rfl : (2, 3) = x0 := by simpa using hx0
  obtain rfl : (1, 5) = x1 := by simpa using hx1
  obtain rfl : (3, 5) = x2 := by simpa using hx2
  simp [Addr.add] at d0 d1 d2
  have hBw := hK5.below hB hB.size (fun k _ hk => h3 k hk)
  have hlen := timerLen_any w5 _ tb _ hT5
  have HL := Lib.hid hlen
  have HBw := Lib.hid hBw
  clear hlen hBw hR hT5 hK5 hT hC hP1 hP2 hP3 hB h3 ha1 ha2 hx0 hx1 hx2
  go_wp2_with (go_at_call 19; refine Calls.mono HL.out ?_; rintro e w6 ⟨rfl, rfl⟩)
  go_ret
  exact ⟨rfl, HBw.out⟩
end Go.Proofs.Ytihmblkfbcnllaa
