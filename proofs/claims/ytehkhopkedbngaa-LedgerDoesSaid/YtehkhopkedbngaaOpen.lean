/- What came in reads as plain data: from the form's own reading ('trod') to the kinds of the printed words. No program in it. -/
import Derived.Test.YtehkhopkedbngaaBase
import Derived.ProofKit
import Derived.OpenShut
import Derived.ShutString
import Derived.ChangeOld
import Derived.SizedLaws
import Derived.Deep.Slices
namespace Go.Proofs.Ytehkhopkedbngaa
open Go.RowKit Go.Proofs.YtehkhopkedbngaaW.PrintWords Go.Deep

/-- Whatever the form reads at type t is data of kind d (that meets ok). -/
structure Opens {α : Type} (P : Program) (t : TypeId) (d : Kd α) (ok : α → Prop) : Prop where
  cells : P.cellsOf t = d.sz
  get : ∀ {H : Type} {enc : TypeId × Value → H} {w : World} {held : Bool} {fuel : Nat} {cs : List Value} {x : DataW H × List MemPlace},
    DataW.trod enc P w 0 (fun _ => true) held fuel t cs = some x → ∃ a, d.K w a cs ∧ ok a

theorem opens_int {P : Program} {t : TypeId} {k : IntKind} (ht : P.underlying t = some (.int k)) (hc : P.cellsOf t = 1) : Opens P t (Kd.int k) (fun n => (Lit.int k n).wf = true) :=
  ⟨hc, fun h => by obtain ⟨n, rfl, _, hw⟩ := DataW.trod_int ht h; exact ⟨n, rfl, hw⟩⟩
theorem opens_bool {P : Program} {t : TypeId} (ht : P.underlying t = some .bool) (hc : P.cellsOf t = 1) : Opens P t Kd.bool (fun _ => True) :=
  ⟨hc, fun h => by obtain ⟨n, rfl, _⟩ := DataW.trod_bool ht h; exact ⟨n, rfl, trivial⟩⟩
theorem opens_string {P : Program} {t : TypeId} (ht : P.underlying t = some .string) (hc : P.cellsOf t = 1) : Opens P t Kd.string (fun s => s.size ≤ maxLen) :=
  ⟨hc, fun h => by obtain ⟨n, rfl, _, hs⟩ := DataW.trod_string ht h; exact ⟨n, rfl, hs⟩⟩

theorem opens_slice {α : Type} {P : Program} {t e : TypeId} {d : Kd α} {ok : α → Prop} (ht : P.underlying t = some (.slice e)) (hc : P.cellsOf t = 1) (he : Opens P e d ok) : Opens P t (Kd.slice e d) (fun xs => ∀ x ∈ xs, ok x) := by
  refine ⟨hc, fun {H enc w held fuel cs x} h => ?_⟩
  rcases open_slice ht h with ⟨rfl, _⟩ | ⟨a, len, cap, m, n, D, Pl, rfl, _, hl, hm, hmm, _, hel⟩
  · exact ⟨[], ⟨none, 0, rfl, Nat.le_refl _, Kd.C_nil _ _⟩, by simp⟩
  · have hle : len ≤ m := by rw [hmm]; simpa using hl
    have hex : ∀ i, i < len → ∃ x : α × List Value, d.K w x.1 x.2 ∧ ok x.1 ∧ x.2.length = d.sz ∧ ∀ j u, x.2[j]? = some u → w.cell? (a.add (i * d.sz + j)) = some u := by
      intro i hi
      obtain ⟨cs', h1, h2⟩ := hel i (by omega)
      obtain ⟨b, hK, hok⟩ := he.get h2
      refine ⟨(b, cs'), hK, hok, d.K_len hK, fun j u hu => ?_⟩
      rw [he.cells] at h1
      obtain ⟨_, hlen, hcell⟩ := World.cells?_some h1
      have hj : j < cs'.length := (List.getElem?_eq_some_iff.1 hu).1
      have := hcell j (by omega)
      rw [Deep.add_add] at this
      rw [this]
      exact hu
    by_cases h0 : len = 0
    · subst h0
      exact ⟨[], ⟨some a, cap, rfl, by simp, rfl, by simp, fun h => absurd h (by simp)⟩, by simp⟩
    · obtain ⟨x0, _⟩ := hex 0 (by omega)
      haveI : Inhabited (α × List Value) := ⟨x0⟩
      obtain ⟨f, hf⟩ := choose_lt hex
      have hlen : ((List.range len).map fun i => (f i).1).length = len := by simp
      refine ⟨(List.range len).map fun i => (f i).1, ⟨some a, cap, by rw [hlen], by rw [hlen]; exact hl, ?_⟩, ?_⟩
      · refine ⟨rfl, by rw [hlen]; unfold maxLen at hm; omega, fun _ => ⟨a, rfl, fun j p hj => ?_⟩⟩
        have hjl : j < len := by
          have := (List.getElem?_eq_some_iff.1 hj).1
          rwa [hlen] at this
        have hp : p = (f j).1 := by
          rw [List.getElem?_map, List.getElem?_range hjl] at hj
          simpa using hj.symm
        subst hp
        exact ⟨(f j).2, (hf j hjl).2.2.1, (hf j hjl).1, (hf j hjl).2.2.2⟩
      · intro y hy
        obtain ⟨i, hi, rfl⟩ := List.mem_map.1 hy
        exact (hf i (List.mem_range.1 hi)).2.1

/-- The fields of a struct from an offset on. -/
inductive Fields (P : Program) : {β : Type} → List Field → Nat → Kd β → (β → Prop) → Prop
  | last {α : Type} {f : Field} {off : Nat} {d : Kd α} {ok : α → Prop} (h : Opens P f.type d ok) (ho : f.offset = off) : Fields P [f] off d ok
  | cons {α β : Type} {f : Field} {fs : List Field} {off off' : Nat} {d : Kd α} {ok : α → Prop} {d2 : Kd β} {ok2 : β → Prop} (h : Opens P f.type d ok) (ho : f.offset = off) (h2 : Fields P fs off' d2 ok2) (ho' : off' = off + d.sz) :
      Fields P (f :: fs) off (Kd.pair d d2) (fun x => ok x.1 ∧ ok2 x.2)

theorem Fields.get {P : Program} {β : Type} {fs : List Field} {off : Nat} {d : Kd β} {ok : β → Prop} (h : Fields P fs off d ok) {H : Type} {enc : TypeId × Value → H} {w : World} {held : Bool} {n : Nat} {cs : List Value}
    (hlen : cs.length = off + d.sz)
    (hf : ∀ f, f ∈ fs → ∃ y, DataW.trod enc P w 0 (fun _ => true) held n f.type ((cs.drop f.offset).take (P.cellsOf f.type)) = some y) : ∃ a, d.K w a (cs.drop off) ∧ ok a := by
  induction h with
  | @last α f off d ok h ho =>
    obtain ⟨y, hy⟩ := hf f (by simp)
    obtain ⟨a, hK, hok⟩ := h.get hy
    rw [h.cells, ho, List.take_of_length_le (by rw [List.length_drop]; omega)] at hK
    exact ⟨a, hK, hok⟩
  | @cons α β f fs off off' d ok d2 ok2 h ho h2 ho' ih =>
    obtain ⟨y, hy⟩ := hf f (by simp)
    obtain ⟨a, hK, hok⟩ := h.get hy
    rw [h.cells, ho] at hK
    have hsz : (Kd.pair d d2).sz = d.sz + d2.sz := rfl
    obtain ⟨b, hK2, hok2⟩ := ih (by omega) (fun g hg => hf g (List.mem_cons_of_mem _ hg))
    refine ⟨(a, b), ⟨(cs.drop off).take d.sz, cs.drop off', ?_, hK, hK2⟩, hok, hok2⟩
    rw [ho', ← List.drop_drop, List.take_append_drop]

theorem opens_struct {P : Program} {β : Type} {t : TypeId} {fs : Array Field} {d : Kd β} {ok : β → Prop} (ht : P.underlying t = some (.struct fs)) (hc : P.cellsOf t = d.sz) (h : Fields P fs.toList 0 d ok) : Opens P t d ok := by
  refine ⟨hc, fun {H enc w held fuel cs x} hx => ?_⟩
  obtain ⟨xs, n, _, _, hl, hlen, hf⟩ := DataW.trod_struct ht hx
  refine Fields.get h (cs := cs) (n := n) (enc := enc) (held := held) (by rw [hl, hc]; omega) (fun f hfm => ?_)
  obtain ⟨i, hi, rfl⟩ := List.getElem_of_mem hfm
  have hi' : i < fs.size := by simpa using hi
  have h1 := hf i fs[i] (by simp [hi'])
  have h2 : i < xs.length := by omega
  refine ⟨xs[i], ?_⟩
  rw [List.getElem?_eq_getElem h2] at h1
  simpa using h1

/-- An argument that is a slice. -/
theorem arg_slice {α : Type} {P : Program} {t e : TypeId} {d : Kd α} {ok : α → Prop} (ht : P.underlying t = some (.slice e)) (hc : P.cellsOf t = 1) (he : Opens P e d ok) {H : Type} {enc : TypeId × Value → H} {w : World} {held : Bool} {a : Option Addr} {len cap : Nat} {y : DataW H} {ps : List MemPlace}
    (h : DataW.Trod enc P w 0 (fun _ => true) held t (.slice a len cap) y ps) : ∃ xs : List α, d.C w a len xs ∧ len ≤ cap ∧ ∀ x ∈ xs, ok x := by
  obtain ⟨fuel, hf⟩ := h
  obtain ⟨xs, ⟨A, c, hcs, hle, hC⟩, hok⟩ := (opens_slice ht hc he).get hf
  have hcs' : [Value.slice a len cap] = [.slice A xs.length c] := by simpa [Value.cells] using hcs
  injection hcs' with h1 _
  injection h1 with h1 h2 h3
  subst h1 h2 h3
  exact ⟨xs, hC, hle, hok⟩

end Go.Proofs.Ytehkhopkedbngaa
