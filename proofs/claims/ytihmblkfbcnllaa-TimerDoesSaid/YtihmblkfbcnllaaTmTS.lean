/- A timer and a row of the document's (which may be the end of another row); a timer, its copy and such a row. -/
import Derived.Test.YtihmblkfbcnllaaTmSort
import Derived.Test.YtihmblkfbcnllaaTmSame
namespace Go.Proofs.Ytihmblkfbcnllaa
open Go.RowKit Go.Proofs.YtihmblkfbcnllaaW.PrintWords

theorem info_ref : (Try.prog.info? 37).map (fun i => (i.zero, i.size, i.bytes)) = some (some (.agg #[.int .i64 0, .int .i64 0]), 2, 16) := by kernel_rfl
/-- A row of items that stays what it is while the blocks of S do. -/
def Stab (w : World) (S : Nat → Prop) (A : Option Addr) (r : List It) : Prop :=
  ∀ w' : World, (∀ k, S k → k < w.heap.size → w'.heap[k]? = w.heap[k]?) → KIt.C w' A r.length r
theorem Stab.C {w : World} {S : Nat → Prop} {A : Option Addr} {r : List It} (h : Stab w S A r) : KIt.C w A r.length r := h w (fun _ _ _ => rfl)
theorem Stab.move {w w' : World} {S S' : Nat → Prop} {A : Option Addr} {r : List It} (h : Stab w S A r) (hm : ∀ k, S k → k < w.heap.size → w'.heap[k]? = w.heap[k]?) (hz : w.heap.size ≤ w'.heap.size) (hS : ∀ k, S k → k < w.heap.size → S' k) : Stab w' S' A r :=
  fun w2 h2 => h w2 (fun k hk hl => (h2 k (hS k hk hl) (Nat.lt_of_lt_of_le hl hz)).trans (hm k hk hl))
theorem Stab.of_R {e : Nat} {w : World} {b : Nat} {ok S : Nat → Prop} {A : Option Addr} {n c : Nat} {r : List It} (h : KIt.R e w b ok (.slice A n c) r) (hS : ∀ k, b ≤ k → k < w.heap.size → S k) : Stab w S A r := by
  intro w' hm
  have h2 := Kd.R_step (R_fresh h) (w1 := w') (fun k hk hl => hm k (hS k hk.1 hl) hl)
  exact (Kd.R_reads' h2).2.2
theorem Stab.drop {w : World} {S : Nat → Prop} {A : Option Addr} {r : List It} (h : Stab w S A r) {m c : Nat} (hm : m ≤ r.length) (hc : r.length ≤ c) : Stab w S (if c = m then A else A.map (·.add (m * 2))) (r.drop m) :=
  fun w' hw => Kd.C_drop (h w' hw) hm hc

def TS (w0 w : World) (tb : Nat) (v : Value) (s r : List It) (G : List (Nat × Obj)) : Prop :=
  ∃ ok : Nat → Prop, TmAt w ok tb s ∧ (∃ A c, v = .slice A r.length c ∧ r.length ≤ c ∧ Stab w (fun k => w0.heap.size ≤ k ∧ ¬ ok k) A r) ∧ (∀ k, ok k → w0.heap.size ≤ k) ∧ Below w0.heap.size w0 w ∧ ∀ g ∈ G, ¬ ok g.1 ∧ w.heap[g.1]? = some g.2
section
variable {w0 w w' : World} {tb : Nat} {v : Value} {s r s' r' : List It} {G : List (Nat × Obj)}
theorem TS.belowW (h : TS w0 w tb v s r G) : Below w0.heap.size w0 w := by
  obtain ⟨_, _, _, _, h, _⟩ := h
  exact h
/-- w0's blocks may be in S too: they are no change. -/
theorem TS.below (h : TS w0 w tb v s r G) (hB : Below w.heap.size w w') : TS w0 w' tb v s r G := by
  obtain ⟨ok, h1, ⟨A, c, e, hc, h2⟩, h3, h4, h5⟩ := h
  exact ⟨ok, h1.below hB, ⟨A, c, e, hc, h2.move (fun k _ hl => hB.block k hl) hB.size (fun _ hk _ => hk)⟩, h3, h4.trans (hB.mono h4.size), fun g hg => ⟨(h5 g hg).1, (hB.block g.1 (blk_lt (h5 g hg).2)).trans (h5 g hg).2⟩⟩
theorem TS.get (h : TS w0 w tb v s r G) {g : Nat} {o : Obj} (hg : (g, o) ∈ G) : w.heap[g]? = some o := by
  obtain ⟨_, _, _, _, _, h⟩ := h
  exact (h _ hg).2
theorem TS.forget (h : TS w0 w tb v s r G) : TS w0 w tb v s r [] := by
  obtain ⟨ok, h1, h2, h3, h4, _⟩ := h
  exact ⟨ok, h1, h2, h3, h4, by simp⟩
theorem TS.alloc (h : TS w0 w tb v s r G) (o : Obj) : TS w0 (w.alloc o) tb v s r ((w.heap.size, o) :: G) := by
  obtain ⟨ok, h1, ⟨A, c, e, hc, h2⟩, h3, h4, h5⟩ := h
  have hB : Below w.heap.size w (w.alloc o) := below_alloc (Below.refl _ _) _
  refine ⟨fun k => ok k ∧ k < w.heap.size, (h1.mono (fun k hk hl => ⟨hk, hl⟩)).below hB, ⟨A, c, e, hc, h2.move (fun k _ hl => hB.block k hl) hB.size (fun k hk _ => ⟨hk.1, fun h => hk.2 h.1⟩)⟩, fun k hk => h3 k hk.1, h4.trans (hB.mono h4.size), fun g hg => ?_⟩
  rcases List.mem_cons.1 hg with rfl | hg
  · exact ⟨fun h => absurd h.2 (Nat.lt_irrefl _), heap_alloc_new w o⟩
  · exact ⟨fun h => (h5 g hg).1 h.1, (hB.block g.1 (blk_lt (h5 g hg).2)).trans (h5 g hg).2⟩
theorem TS.trow (h : TS w0 w tb v s r G) : tRow s := by
  obtain ⟨_, h1, _⟩ := h
  exact h1.trow
theorem TS.row (h : TS w0 w tb v s r G) : ∃ A c, v = .slice A r.length c ∧ r.length ≤ c ∧ KIt.C w A r.length r := by
  obtain ⟨_, _, ⟨A, c, e, hc, h2⟩, _⟩ := h
  exact ⟨A, c, e, hc, h2.C⟩
theorem TS.rowC {A : Option Addr} {n c : Nat} (h : TS w0 w tb (.slice A n c) s r G) : n = r.length ∧ n ≤ c ∧ KIt.C w A r.length r := by
  obtain ⟨A1, c1, e1, hc, hC⟩ := h.row
  injection e1 with e1 e2 e3
  subst e1 e2 e3
  exact ⟨rfl, hc, hC⟩
theorem TS.turn {ok ok' : Nat → Prop} (h1 : ∃ A c, v = .slice A r.length c ∧ r.length ≤ c ∧ Stab w (fun k => w0.heap.size ≤ k ∧ ¬ ok k) A r) (h2 : ∀ k, ok k → w0.heap.size ≤ k) (h3 : Below w0.heap.size w0 w)
    (h5 : ∀ g ∈ G, ¬ ok g.1 ∧ w.heap[g.1]? = some g.2) (hT : TmAt w' ok' tb s') (hK : Keep ok w w') (ho : ∀ k, ok' k → ok k ∨ w.heap.size ≤ k) : TS w0 w' tb v s' r G := by
  obtain ⟨A, c, e, hc, h1⟩ := h1
  refine ⟨ok', hT, ⟨A, c, e, hc, h1.move (fun k hk hl => hK.block k hl hk.2) hK.size (fun k hk hl => ⟨hk.1, fun h => ?_⟩)⟩, fun k hk => ?_, hK.below h3 h3.size (fun k _ hk => h2 k hk), fun g hg => ⟨fun h => ?_, (hK.block g.1 (blk_lt (h5 g hg).2) (h5 g hg).1).trans (h5 g hg).2⟩⟩
  · rcases ho k h with h | h
    · exact hk.2 h
    · omega
  · rcases ho k hk with h | h
    · exact h2 k h
    · have := h3.size; omega
  · rcases ho g.1 h with h | h
    · exact (h5 g hg).1 h
    · have := blk_lt (h5 g hg).2; omega
theorem TS.set (h : TS w0 w tb v s r G) (id t : Int) (hw : (Lit.int .i64 id).wf = true) (hs : s.length < 1000000) :
    Calls Try.prog 13 #[.pointer (some ⟨tb, 0, none⟩), .int .i64 id, .int .i64 t] w fun e w' => e = .returned (.tuple #[]) ∧ TS w0 w' tb v (tSet s id t) r G := by
  obtain ⟨ok, h1, h2, h3, h4, h5⟩ := h
  refine (timerSet_any w ok tb s id t h1 hw hs).mono ?_
  rintro e w' ⟨rfl, hT, hK⟩
  exact ⟨rfl, TS.turn h2 h3 h4 h5 hT hK (fun _ h => h)⟩
theorem TS.drop (h : TS w0 w tb v s r G) (id : Int) (hw : (Lit.int .i64 id).wf = true) (hs : s.length ≤ 1000000) :
    Calls Try.prog 11 #[.pointer (some ⟨tb, 0, none⟩), .int .i64 id] w fun e w' => e = .returned (.bool (hasId s id)) ∧ TS w0 w' tb v (tDrop s id) r G := by
  obtain ⟨ok, h1, h2, h3, h4, h5⟩ := h
  refine (timerDrop_any w ok tb s id h1 hw hs).mono ?_
  rintro e w' ⟨rfl, hT, hK⟩
  exact ⟨rfl, TS.turn h2 h3 h4 h5 hT hK (fun _ h => .inl h)⟩
theorem TS.due (h : TS w0 w tb v s r G) (now : Int) (hs : s.length ≤ 1000000) :
    Calls Try.prog 18 #[.pointer (some ⟨tb, 0, none⟩), .int .i64 now] w fun e w' => ∃ A n c, e = .returned (.slice A n c) ∧ n = (s.take (tDue s now)).length ∧ KIt.C w' A n (s.take (tDue s now)) ∧ TS w0 w' tb v (s.drop (tDue s now)) r G := by
  obtain ⟨ok, h1, h2, h3, h4, h5⟩ := h
  refine (timerDue_any w ok tb s now h1 hs).mono ?_
  rintro e w' ⟨v, rfl, hR, hT, hK⟩
  obtain ⟨A, c, rfl⟩ := Kd.R_slice hR
  exact ⟨A, _, c, rfl, rfl, (Kd.R_reads' hR).2.2, TS.turn h2 h3 h4 h5 hT hK (fun _ h => .inl h.1)⟩
theorem TS.len (h : TS w0 w tb v s r G) : Calls Try.prog 19 #[.pointer (some ⟨tb, 0, none⟩)] w fun e w' => e = .returned (.int .i64 s.length) ∧ w = w' := by
  obtain ⟨ok, h1, _⟩ := h
  exact timerLen_any w ok tb s h1
theorem TS.all (h : TS w0 w tb v s r G) (hs : s.length ≤ 1000000) : Calls Try.prog 20 #[.pointer (some ⟨tb, 0, none⟩)] w fun e w' => ∃ A c, e = .returned (.slice A s.length c) ∧ KIt.C w' A s.length s ∧ TS w0 w' tb v s r G := by
  have h0 := h
  obtain ⟨ok, h1, _⟩ := h
  refine (timerAll_any w ok tb s h1 hs).mono ?_
  rintro e w' ⟨A, c, rfl, hR, hB⟩
  exact ⟨A, c, rfl, (Kd.R_reads' hR).2.2, h0.below hB⟩
theorem TS.newRow (h : TS w0 w tb v s r G) {A : Option Addr} {n c : Nat} (hR : KIt.R 37 w' w.heap.size (fun _ => True) (.slice A n c) r') (hB : Below w.heap.size w w') : TS w0 w' tb (.slice A n c) s r' G := by
  obtain ⟨ok, h1, h2, h3, h4, h5⟩ := h
  obtain ⟨hn, hc, _⟩ := Kd.R_reads' hR
  subst hn
  refine ⟨fun k => ok k ∧ k < w.heap.size, (h1.mono (fun k hk hl => ⟨hk, hl⟩)).below hB, ⟨A, c, rfl, hc, Stab.of_R hR (fun k hk hl => ⟨Nat.le_trans h4.size hk, fun ho => by have := ho.2; omega⟩)⟩, fun k hk => h3 k hk.1, h4.trans (hB.mono h4.size), fun g hg => ⟨fun h => (h5 g hg).1 h.1, (hB.block g.1 (blk_lt (h5 g hg).2)).trans (h5 g hg).2⟩⟩
theorem TS.refSet (h : TS w0 w tb v s r G) {A : Option Addr} {n c : Nat} (hv : v = .slice A n c) (id t : Int) (hl : r.length ≤ 100000) :
    Calls Try.prog 14 #[.slice A n c, .int .i64 id, .int .i64 t] w fun e w' => ∃ A' c', e = .returned (.slice A' (tSet r id t).length c') ∧ TS w0 w' tb (.slice A' (tSet r id t).length c') s (tSet r id t) G := by
  obtain ⟨A1, c1, e1, hc, hC⟩ := h.row
  rw [hv] at e1
  injection e1 with e1 e2 e3
  subst e1 e2 e3
  refine (refSet_any A _ c r id t w hC hc hl).mono ?_
  rintro e w' ⟨v', rfl, hR, hB⟩
  obtain ⟨A', c', rfl⟩ := Kd.R_slice hR
  exact ⟨A', c', rfl, h.newRow hR hB⟩
theorem TS.refDrop (h : TS w0 w tb v s r G) {A : Option Addr} {n c : Nat} (hv : v = .slice A n c) (id : Int) (hl : r.length ≤ 100000) :
    Calls Try.prog 12 #[.slice A n c, .int .i64 id] w fun e w' => ∃ A' c', e = .returned (.slice A' (tDrop r id).length c') ∧ TS w0 w' tb (.slice A' (tDrop r id).length c') s (tDrop r id) G := by
  obtain ⟨A1, c1, e1, hc, hC⟩ := h.row
  rw [hv] at e1
  injection e1 with e1 e2 e3
  subst e1 e2 e3
  refine (refDrop_any A _ c r id w hC hc hl).mono ?_
  rintro e w' ⟨v', rfl, hR, hB⟩
  obtain ⟨A', c', rfl⟩ := Kd.R_slice hR
  exact ⟨A', c', rfl, h.newRow hR hB⟩
/-- The row's end alone is kept. -/
theorem TS.rest (h : TS w0 w tb v s r G) {A : Option Addr} {n c : Nat} (hv : v = .slice A n c) (m : Nat) (hm : m ≤ r.length) :
    ∃ A' c', (∀ W : World, (Instr.slice 26 (.slice A n c) (some (.int .i64 (m : Int))) none none).run Try.prog W = .ok (.slice A' (r.drop m).length c') W) ∧ ∀ w' s', TS w0 w' tb (.slice A n c) s' r G → TS w0 w' tb (.slice A' (r.drop m).length c') s' (r.drop m) G := by
  obtain ⟨ok, h1, ⟨A1, c1, e1, hc, h2⟩, h3, h4, h5⟩ := h
  rw [hv] at e1
  injection e1 with e1 e2 e3
  subst e1 e2 e3
  obtain ⟨i0, hi, hz0, hz1, hz2⟩ := info_parts info_ref
  refine ⟨_, c - m, fun W => by rw [List.length_drop]; exact run_drop 26 37 Try.underlying26 hi 2 hz1 A _ c m hm W, ?_⟩
  rintro w' s' ⟨ok, h1, ⟨A1, c1, e1, hc, h2⟩, h3, h4, h5⟩
  injection e1 with e1 e2 e3
  subst e1 e3
  exact ⟨ok, h1, ⟨_, c - m, rfl, by rw [List.length_drop]; omega, h2.drop hm hc⟩, h3, h4, h5⟩
/-- After a copy: the timer that was goes on and is forgotten. -/
def TC (w0 w : World) (tb cb : Nat) (v : Value) (s0 s r : List It) : Prop :=
  ∃ okT okC : Nat → Prop, TmAt w okT tb s0 ∧ TmAt w okC cb s ∧ (∃ A c, v = .slice A r.length c ∧ r.length ≤ c ∧ Stab w (fun k => w0.heap.size ≤ k ∧ ¬ okT k ∧ ¬ okC k) A r) ∧ (∀ k, okT k → w0.heap.size ≤ k ∧ ¬ okC k) ∧ (∀ k, okC k → w0.heap.size ≤ k) ∧ Below w0.heap.size w0 w
theorem TS.copy (h : TS w0 w tb v s r G) (hs : s.length ≤ 1000000) :
    Calls Try.prog 17 #[.pointer (some ⟨tb, 0, none⟩)] w fun e w' => ∃ cb, e = .returned (.pointer (some ⟨cb, 0, none⟩)) ∧ TC w0 w' tb cb v s s r := by
  obtain ⟨ok, h1, ⟨A, c, e, hc, h2⟩, h3, h4, h5⟩ := h
  refine (timerCopy_any w ok tb s h1 hs).mono ?_
  rintro e w' ⟨cb, rfl, hC, hB⟩
  refine ⟨cb, rfl, fun k => ok k ∧ k < w.heap.size, fun k => w.heap.size ≤ k, (h1.mono (fun k hk hl => ⟨hk, hl⟩)).below hB, hC, ⟨A, c, e, hc, h2.move (fun k _ hl => hB.block k hl) hB.size (fun k hk hl => ⟨hk.1, fun ho => hk.2 ho.1, by omega⟩)⟩, fun k hk => ⟨h3 k hk.1, by have := hk.2; omega⟩, fun k hk => Nat.le_trans h4.size hk, h4.trans (hB.mono h4.size)⟩
variable {cb : Nat} {s0 s1 : List It}
theorem TC.turn {okT okT' okC : Nat → Prop} (hv : ∃ A c, v = .slice A r.length c ∧ r.length ≤ c ∧ Stab w (fun k => w0.heap.size ≤ k ∧ ¬ okT k ∧ ¬ okC k) A r) (hc : TmAt w okC cb s) (h1 : ∀ k, okT k → w0.heap.size ≤ k ∧ ¬ okC k) (h2 : ∀ k, okC k → w0.heap.size ≤ k) (h3 : Below w0.heap.size w0 w)
    (hT : TmAt w' okT' tb s1) (hK : Keep okT w w') (ho : ∀ k, okT' k → okT k ∨ w.heap.size ≤ k) : TC w0 w' tb cb v s1 s r := by
  obtain ⟨A, c, e, hcc, hv⟩ := hv
  have hz := h3.size
  refine ⟨okT', fun k => okC k ∧ k < w.heap.size, hT, (hc.mono (fun k hk hl => ⟨hk, hl⟩)).kept hK (fun k hk _ ht => (h1 k ht).2 hk.1), ⟨A, c, e, hcc, hv.move (fun k hk hl => hK.block k hl hk.2.1) hK.size (fun k hk hl => ⟨hk.1, fun h => ?_, fun h => hk.2.2 h.1⟩)⟩, fun k hk => ?_, fun k hk => h2 k hk.1, hK.below h3 h3.size (fun k _ hk => (h1 k hk).1)⟩
  · rcases ho k h with h | h
    · exact hk.2.1 h
    · omega
  · rcases ho k hk with h | h
    · exact ⟨(h1 k h).1, fun hh => (h1 k h).2 hh.1⟩
    · exact ⟨by omega, fun hh => by have := hh.2; omega⟩
theorem TC.set (h : TC w0 w tb cb v s0 s r) (id t : Int) (hw : (Lit.int .i64 id).wf = true) (hs : s0.length < 1000000) :
    Calls Try.prog 13 #[.pointer (some ⟨tb, 0, none⟩), .int .i64 id, .int .i64 t] w fun e w' => e = .returned (.tuple #[]) ∧ TC w0 w' tb cb v (tSet s0 id t) s r := by
  obtain ⟨okT, okC, h1, hc, hv, h2, h3, h4⟩ := h
  refine (timerSet_any w okT tb s0 id t h1 hw hs).mono ?_
  rintro e w' ⟨rfl, hT, hK⟩
  exact ⟨rfl, TC.turn hv hc h2 h3 h4 hT hK (fun _ h => h)⟩
theorem TC.due (h : TC w0 w tb cb v s0 s r) (now : Int) (hs : s0.length ≤ 1000000) :
    Calls Try.prog 18 #[.pointer (some ⟨tb, 0, none⟩), .int .i64 now] w fun e w' => ∃ u, e = .returned u ∧ TS w0 w' cb v s r [] := by
  obtain ⟨okT, okC, h1, hc, hv, h2, h3, h4⟩ := h
  refine (timerDue_any w okT tb s0 now h1 hs).mono ?_
  rintro e w' ⟨u, rfl, _, hT, hK⟩
  obtain ⟨okT', okC', g1, g2, ⟨A, c, e, hcc, hv⟩, g3, g4, g5⟩ := TC.turn hv hc h2 h3 h4 hT hK (fun _ h => .inl h.1)
  exact ⟨u, rfl, okC', g2, ⟨A, c, e, hcc, hv.move (fun _ _ _ => rfl) (Nat.le_refl _) (fun k hk _ => ⟨hk.1, hk.2.2⟩)⟩, g4, g5, by simp⟩
end
theorem TS_new (w0 w : World) (hB : Below w0.heap.size w0 w) : Calls Try.prog 10 #[] w fun e w' => e = .returned (.pointer (some ⟨w.heap.size + 1, 0, none⟩)) ∧ TS w0 w' (w.heap.size + 1) (.slice none 0 0) [] [] [] := by
  refine (timerNew_any w).mono ?_
  rintro e w' ⟨rfl, hT, hB'⟩
  refine ⟨rfl, _, hT, ⟨none, 0, rfl, Nat.le_refl _, fun w2 _ => ?_⟩, fun k hk => Nat.le_trans hB.size hk, hB.trans (hB'.mono hB.size), by simp⟩
  exact (Kd.R_reads' (Kd.R_nil KIt 37 w2 0 (fun _ => True))).2.2
end Go.Proofs.Ytihmblkfbcnllaa
