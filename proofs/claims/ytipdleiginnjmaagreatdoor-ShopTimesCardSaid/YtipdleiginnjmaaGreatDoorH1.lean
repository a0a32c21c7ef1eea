/- Put together: Plain lemmas on rows in memory (kinds 'Kd' of the printed words), blocks that are kept, cuts: no program in them. · Objects in memory, each with the blocks that are its own: a small calculus of separate footprints. No program in it. · Objects made of objects: side by side as one (AStar), one of many (AEx), with a fact (AIf); opened and shut. No program in it. · Maps in memory, told as a list of entries (no key twice; the order is nobody's): look-up, store, delete, len, range. No program in it. · Stores into maps, and deletes, in a region that draws its order. No program in it. · cmp.Compare at int. · cmp.Or of two ints. · What came in reads as plain data: from the form's own reading ('trod') to the kinds of the printed words. No program in it. -/
import Derived.Test.YtipdleiginnjmaaGreatDoorProg
import Derived.Test.YtipdleiginnjmaaGreatDoorWKept
import Derived.Lib.AppendZeros
import Derived.Lib.LazyBuf
import Derived.Lib.Hide
import Derived.WalkSpells
import Derived.WalkLawsBesides
import Derived.Maps.OwnSet
import Derived.Maps.RangeWalk
import Derived.Maps.Ext
import Derived.Carry
import Derived.ProofKit
import Derived.OpenShut
import Derived.ShutString
import Derived.ChangeOld
import Derived.SizedLaws
import Derived.Deep.Slices
set_option linter.unusedVariables false
set_option linter.unusedSimpArgs false
namespace Go.Proofs.YtipdleiginnjmaaGreatDoor
open Go.RowKit Go.Proofs.YtipdleiginnjmaaGreatDoorW.PrintWords

theorem R_empty {α : Type} (d : Kd α) (e : Nat) (w : World) (base : Nat) (ok : Nat → Prop) (hb : base ≤ w.heap.size) (ho : ok w.heap.size) :
    d.R e (w.alloc (.cells #[] e)) base ok (.slice (some ⟨w.heap.size, 0, none⟩) 0 0) [] := by
  refine ⟨fun k hk => ?_, [], ⟨by simp, .inr ⟨w.heap.size, 0, #[], rfl, hb, heap_alloc_new w _, Nat.le_refl _, by simp [maxLen], by simp, by simp⟩⟩, Reps.none _ _⟩
  have : w.heap.size = k := by simpa [Value.ownBlock] using hk
  exact this ▸ ho

theorem R_room {α : Type} (d : Kd α) (e : Nat) (w : World) (base : Nat) (ok : Nat → Prop) (hb : base ≤ w.heap.size) (ho : ok w.heap.size) (cap : Nat) (cur : Array Value) (hc : cap ≤ maxLen) (hs : cur.size = cap * d.sz) :
    d.R e (w.alloc (.cells cur e)) base ok (.slice (some ⟨w.heap.size, 0, none⟩) 0 cap) [] := by
  refine ⟨fun k hk => ?_, [], ⟨by simp, .inr ⟨w.heap.size, cap, cur, rfl, hb, heap_alloc_new w _, Nat.zero_le _, hc, hs, by simp⟩⟩, Reps.none _ _⟩
  have : w.heap.size = k := by simpa [Value.ownBlock] using hk
  exact this ▸ ho

/-- One element of a row that is read. -/
theorem C_nth {α : Type} {d : Kd α} {w : World} {A : Option Addr} {n : Nat} {xs : List α} (h : d.C w A n xs) (k : Nat) (hk : k < n) :
    ∃ ad x c, A = some ad ∧ xs[k]? = some x ∧ c.length = d.sz ∧ d.K w x c ∧ ∀ j u, c[j]? = some u → w.cell? (ad.add (k * d.sz + j)) = some u := by
  have hl : k < xs.length := by rw [Kd.C_len h]; exact hk
  obtain ⟨ad, c, hA, h1, h2, h3⟩ := Kd.C_get h xs[k] k (by omega) (by omega)
  simp only [Int.toNat_natCast] at h2 h3
  refine ⟨ad, xs[k], c, hA, by simp [hl], h1, ?_, h3⟩
  simpa [List.getD, hl] using h2
theorem C_nth_slice {α : Type} {d : Kd α} {e : Nat} {w : World} {A : Option Addr} {n : Nat} {xs : List (List α)} (h : (Kd.slice e d).C w A n xs) (k : Nat) (hk : k < n) :
    ∃ ad x A1 c1, A = some ad ∧ xs[k]? = some x ∧ w.cell? (ad.add k) = some (.slice A1 x.length c1) ∧ x.length ≤ c1 ∧ d.C w A1 x.length x := by
  obtain ⟨ad, x, c, hA, hx, _, ⟨A1, c1, rfl, hl, hC⟩, h3⟩ := C_nth h k hk
  refine ⟨ad, x, A1, c1, hA, hx, ?_, hl, hC⟩
  have := h3 0 _ rfl
  simpa [Kd.slice] using this
theorem C_nth_scalar {α : Type} {enc : α → Value} {h1 : ∀ x, (enc x).oneCell' = true} {w : World} {A : Option Addr} {n : Nat} {xs : List α} (h : (Kd.scalar enc h1).C w A n xs) (k : Nat) (hk : k < n) :
    ∃ ad x, A = some ad ∧ xs[k]? = some x ∧ w.cell? (ad.add k) = some (enc x) := by
  obtain ⟨ad, x, c, hA, hx, _, hc, h3⟩ := C_nth h k hk
  have hc' : c = [enc x] := hc
  subst hc'
  refine ⟨ad, x, hA, hx, ?_⟩
  have := h3 0 _ rfl
  simpa [Kd.scalar] using this

/-- How many elements the first k rows have. -/
def flatLen {α : Type} (xss : List (List α)) (k : Nat) : Nat := (xss.take k).flatten.length
theorem flatLen_succ {α : Type} {xss : List (List α)} {k : Nat} {x : List α} (h : xss[k]? = some x) : flatLen xss (k + 1) = flatLen xss k + x.length := by
  unfold flatLen
  rw [List.take_add_one, h]
  simp
theorem flatLen_le {α : Type} (xss : List (List α)) (k : Nat) : flatLen xss k ≤ xss.flatten.length := by
  unfold flatLen
  have h := congrArg (fun l : List (List α) => l.flatten.length) (List.take_append_drop k xss)
  simp only [List.flatten_append, List.length_append] at h
  omega
theorem flatten_succ {α : Type} {xss : List (List α)} {k : Nat} {x : List α} (h : xss[k]? = some x) : (xss.take (k + 1)).flatten = (xss.take k).flatten ++ x := by
  rw [List.take_add_one, h]
  simp

/-- Two rows, as 'f(a, b)' lays them. -/
theorem C_two {α : Type} {d : Kd α} {e g t : Nat} {w : World} {A1 A2 : Option Addr} {n1 n2 c1 c2 : Nat} {xs ys : List α} (hg : w.heap[g]? = some (.cells #[.slice A1 n1 c1, .slice A2 n2 c2] t (0, 0)))
    (h1 : d.C w A1 n1 xs) (hc1 : n1 ≤ c1) (h2 : d.C w A2 n2 ys) (hc2 : n2 ≤ c2) : (Kd.slice e d).C w (some ⟨g, 0, none⟩) 2 [xs, ys] := by
  have e1 := Kd.C_len h1
  have e2 := Kd.C_len h2
  subst e1
  subst e2
  refine ⟨rfl, by omega, fun _ => ⟨_, rfl, fun j x hj => ?_⟩⟩
  match j, hj with
  | 0, hj =>
    obtain rfl := Option.some.inj hj
    refine ⟨_, rfl, ⟨A1, c1, rfl, hc1, h1⟩, fun i u hu => ?_⟩
    match i, hu with
    | 0, hu =>
      obtain rfl := Option.some.inj hu
      rw [add_plain, blk_cell hg]; simp
    | i + 1, hu => simp at hu
  | 1, hj =>
    obtain rfl := Option.some.inj hj
    refine ⟨_, rfl, ⟨A2, c2, rfl, hc2, h2⟩, fun i u hu => ?_⟩
    match i, hu with
    | 0, hu =>
      obtain rfl := Option.some.inj hu
      rw [add_plain, blk_cell hg]; simp [Kd.slice]
    | i + 1, hu => simp at hu
  | j + 2, hj => simp at hj

theorem R_fresh {α : Type} {d : Kd α} {e : Nat} {w : World} {B : Nat} {ok : Nat → Prop} {v : Value} {xs : List α} (h : d.R e w B ok v xs) : d.R e w 0 (fun k => B ≤ k ∧ k < w.heap.size) v xs :=
  Kd.R_lower (Kd.R_mono (Kd.R_bound h) (fun _ hk => ⟨hk.2.1, hk.2.2.1⟩)) (Nat.zero_le _)
theorem below_undrew {w w1 : World} (h : Below w.drew.heap.size w.drew w1) : Below w.heap.size w w1 := ⟨h.os, h.tape, h.output, h.size, h.block⟩

/-- All but the blocks S (of those that were there) is as it was. -/
structure Keep (S : Nat → Prop) (w w' : World) : Prop where
  os : w'.os = w.os
  tape : w'.tape = w.tape
  output : w'.output = w.output
  size : w.heap.size ≤ w'.heap.size
  block : ∀ k, k < w.heap.size → ¬ S k → w'.heap[k]? = w.heap[k]?
theorem Keep.refl (S : Nat → Prop) (w : World) : Keep S w w := ⟨rfl, rfl, rfl, Nat.le_refl _, fun _ _ _ => rfl⟩
theorem Keep.of_below {w w' : World} (h : Below w.heap.size w w') (S : Nat → Prop) : Keep S w w' := ⟨h.os, h.tape, h.output, h.size, fun k hk _ => h.block k hk⟩
theorem Keep.mono {S S' : Nat → Prop} {w w' : World} (h : Keep S w w') (hs : ∀ k, k < w.heap.size → S k → S' k) : Keep S' w w' := ⟨h.os, h.tape, h.output, h.size, fun k hk hn => h.block k hk (fun hS => hn (hs k hk hS))⟩
theorem Keep.trans {S : Nat → Prop} {w w1 w2 : World} (h : Keep S w w1) (h2 : Keep (fun k => S k ∨ w.heap.size ≤ k) w1 w2) : Keep S w w2 :=
  ⟨h2.os.trans h.os, h2.tape.trans h.tape, h2.output.trans h.output, Nat.le_trans h.size h2.size, fun k hk hn => (h2.block k (Nat.lt_of_lt_of_le hk h.size) (fun hS => by rcases hS with hS | hS; exact hn hS; omega)).trans (h.block k hk hn)⟩
theorem Keep.below {S : Nat → Prop} {B : Nat} {w0 w w' : World} (h : Below B w0 w) (hk : Keep S w w') (hB : B ≤ w.heap.size) (hs : ∀ k, k < w.heap.size → S k → B ≤ k) : Below B w0 w' :=
  ⟨hk.os.trans h.os, hk.tape.trans h.tape, hk.output.trans h.output, Nat.le_trans h.size hk.size, fun k hlt => (hk.block k (Nat.lt_of_lt_of_le hlt hB) (fun hS => by have := hs k (Nat.lt_of_lt_of_le hlt hB) hS; omega)).trans (h.block k hlt)⟩
theorem Keep.setCell {S : Nat → Prop} {w w' : World} (h : Keep S w w') {p : Addr} (hp : S p.block ∨ w.heap.size ≤ p.block) (u : Value) : Keep S w (w'.setCell p u) :=
  ⟨h.os, h.tape, h.output, Nat.le_trans h.size (by simp [World.setCell]), fun k hk hn => (Below.heap_setCell w' p u k (fun e => by subst e; rcases hp with hp | hp; exact hn hp; omega)).trans (h.block k hk hn)⟩
theorem Keep.undrew {S : Nat → Prop} {w w' : World} (h : Keep S w.drew w') : Keep S w w' := ⟨h.os, h.tape, h.output, h.size, h.block⟩

theorem run_take {P : Program} (t e : TypeId) {i : TypeInfo} (ht : P.underlying t = some (.slice e)) (hi : P.info? e = some i) (A : Option Addr) (n c m : Nat) (hm : m ≤ n) (hc : n ≤ c) (W : World) :
    (Instr.slice t (.slice A n c) none (some (.int .i64 (m : Int))) none).run P W = .ok (.slice A m c) W := by
  have hel : P.elem t = e := by simp [Program.elem, ht]
  have hu : P.underlying t = some (.slice (P.elem t)) := by rw [hel]; exact ht
  have ha : (A.map fun x => x.add 0) = A := by cases A <;> simp [Addr.add]
  rw [run_slice_h W t A n c hu .i64 (m : Int) (by omega) (by omega), hel]
  simp [sizeOf, typeInfo, hi, sliced, Result.andThen, ha]
theorem run_drop {P : Program} (t e : TypeId) {i : TypeInfo} (ht : P.underlying t = some (.slice e)) (hi : P.info? e = some i) (size : Nat) (hsz : i.size = size) (A : Option Addr) (n c m : Nat) (hm : m ≤ n) (W : World) :
    (Instr.slice t (.slice A n c) (some (.int .i64 (m : Int))) none none).run P W = .ok (.slice (if c = m then A else A.map (·.add (m * size))) (n - m) (c - m)) W := by
  have hel : P.elem t = e := by simp [Program.elem, ht]
  have hu : P.underlying t = some (.slice (P.elem t)) := by rw [hel]; exact ht
  rw [run_slice_l W t A n c hu .i64 (m : Int) (by omega) (by omega), hel]
  simp [sizeOf, typeInfo, hi, hsz, sliced, Result.andThen]
/-- The row up to place m: the value of the cut, and that it reads so. -/
theorem take_row {α : Type} {d : Kd α} {P : Program} (t e : TypeId) {i : TypeInfo} (ht : P.underlying t = some (.slice e)) (hi : P.info? e = some i) {A : Option Addr} {n c : Nat} (m : Nat) {xs : List α} (hm : m ≤ n) (hc : n ≤ c) {w : World} (hC : d.C w A n xs) :
    (∀ W : World, (Instr.slice t (.slice A n c) none (some (.int .i64 (m : Int))) none).run P W = .ok (.slice A m c) W) ∧ d.C w A m (xs.take m) := by
  have hn := Kd.C_len hC
  subst hn
  refine ⟨fun W => run_take t e ht hi A _ c m hm hc W, ?_⟩
  have := Kd.C_take hC hm
  rwa [List.length_take, Nat.min_eq_left hm] at this
/-- The row from place m on: the value of the cut, and that it reads so. -/
theorem drop_row {α : Type} {d : Kd α} {P : Program} (t e : TypeId) {i : TypeInfo} (ht : P.underlying t = some (.slice e)) (hi : P.info? e = some i) (hsz : i.size = d.sz) (A : Option Addr) (c m : Nat) (xs : List α) (hm : m ≤ xs.length) (hc : xs.length ≤ c) {w : World} (hC : d.C w A xs.length xs) :
    ∃ A' : Option Addr, (∀ W : World, (Instr.slice t (.slice A xs.length c) (some (.int .i64 (m : Int))) none none).run P W = .ok (.slice A' (xs.length - m) (c - m)) W) ∧ d.C w A' (xs.length - m) (xs.drop m) := by
  refine ⟨_, fun W => run_drop t e ht hi d.sz hsz A xs.length c m hm W, ?_⟩
  have := Kd.C_drop hC hm hc
  rwa [List.length_drop] at this

/-- A row of scalars that is a block's cells. -/
theorem C_block {α : Type} {enc : α → Value} {h1 : ∀ x, (enc x).oneCell' = true} {w : World} {g t : Nat} {cs : Array Value} (hg : w.heap[g]? = some (.cells cs t (0, 0))) (xs : List α) (hcs : cs.toList = xs.map enc) (hm : xs.length ≤ 9223372036854775807) :
    (Kd.scalar enc h1).C w (some ⟨g, 0, none⟩) xs.length xs := by
  refine ⟨rfl, hm, fun _ => ⟨_, rfl, fun j x hj => ⟨[enc x], rfl, rfl, fun i u hu => ?_⟩⟩⟩
  match i, hu with
  | 0, hu =>
    obtain rfl := Option.some.inj hu
    rw [add_plain, blk_cell hg, ← Array.getElem?_toList, hcs, List.getElem?_map, Nat.add_zero]
    simp [Kd.scalar, hj]
  | i + 1, hu => simp at hu

theorem R_empty_at {α : Type} {d : Kd α} {e g : Nat} {w : World} (hg : w.heap[g]? = some (.cells #[] e (0, 0))) : d.R e w 0 (fun _ => True) (.slice (some ⟨g, 0, none⟩) 0 0) [] :=
  ⟨fun _ _ => trivial, [], ⟨by simp, .inr ⟨g, 0, #[], rfl, Nat.zero_le _, hg, Nat.le_refl _, by simp [maxLen], by simp, by simp⟩⟩, Reps.none _ _⟩
/-- Two appends onto one row of the call's own leave the blocks from lo to hi alone. -/
theorem two_appends_keep {w6 W w7 w8 : World} {lo hi g : Nat} {v1 : Value} (hW : ∀ k, lo ≤ k → k < hi → W.heap[k]? = w6.heap[k]?) (hsz : hi ≤ W.heap.size) (hg1 : W.grownBy w7 (some g)) (hne : g < lo ∨ hi ≤ g)
    (hat : v1.ownBlock = some g ∨ ∃ b, v1.ownBlock = some b ∧ W.heap.size ≤ b) (hg2 : w7.grownBy w8 v1.ownBlock) : ∀ k, lo ≤ k → k < hi → w8.heap[k]? = w6.heap[k]? := by
  intro k h1 h2
  have hk : some k ≠ v1.ownBlock := by
    rcases hat with h | ⟨b, h, hb⟩ <;> rw [h] <;> intro he <;> injection he with he <;> omega
  exact (hg2.block k (Nat.lt_of_lt_of_le (Nat.lt_of_lt_of_le h2 hsz) hg1.size) hk).trans ((hg1.block k (Nat.lt_of_lt_of_le h2 hsz) (by intro he; injection he with he; omega)).trans (hW k h1 h2))
theorem two_appends_below {w W w7 w8 : World} {g : Nat} {v1 : Value} (hW : Below w.heap.size w W) (hg1 : W.grownBy w7 (some g)) (hne : w.heap.size ≤ g)
    (hat : v1.ownBlock = some g ∨ ∃ b, v1.ownBlock = some b ∧ W.heap.size ≤ b) (hg2 : w7.grownBy w8 v1.ownBlock) : Below w.heap.size w w8 := by
  have h1 : Below w.heap.size w w7 := hW.grown hg1 hW.size (fun k hk => by injection hk with hk; omega)
  exact h1.grown hg2 h1.size (fun k hk => by have := hW.size; rcases hat with h | ⟨b, h, hb⟩ <;> rw [h] at hk <;> injection hk with hk <;> omega)

/-- The slice (A, n) lies at the head of a block from base on whose first n cells are ints. -/
def IntsBlock (w : World) (base e : Nat) (A : Option Addr) (n : Nat) : Prop :=
  0 < n → ∃ g cells, A = some ⟨g, 0, none⟩ ∧ base ≤ g ∧ w.heap[g]? = some (.cells cells e (0, 0)) ∧ ∀ i, i < n → ∃ z, cells[i]? = some (.int .i64 z)
theorem intsBlock_of_R {w : World} {base e n c : Nat} {A : Option Addr} {ok : Nat → Prop} {xs : List Int} (h : (Kd.int .i64).R e w base ok (.slice A n c) xs) : IntsBlock w base e A n := by
  intro hn
  have h2 := Kd.R_reads' h
  obtain ⟨inner, ho⟩ := Kd.R_own h
  rcases ho.2 with ⟨h3, _⟩ | ⟨g, cap, cur, h3, hb, hg, _⟩
  · injection h3 with h3 h4 h5
    omega
  · injection h3 with h3 h4 h5
    subst h3
    refine ⟨g, cur, rfl, hb, hg, fun i hi => ?_⟩
    obtain ⟨ad, x, h6, _, h7⟩ := C_nth_scalar h2.2.2 i (by have := h2.1; omega)
    obtain rfl := Option.some.inj h6
    rw [add_plain, blk_cell hg] at h7
    exact ⟨x, h7⟩
theorem IntsBlock.set {w : World} {base e n g j : Nat} {cells : Array Value} (hg : w.heap[g]? = some (.cells cells e (0, 0))) (hb : base ≤ g) (hz : ∀ i, i < n → ∃ z, cells[i]? = some (.int .i64 z)) (x : Int) :
    IntsBlock (w.setCell ⟨g, j, none⟩ (.int .i64 x)) base e (some ⟨g, 0, none⟩) n := by
  intro _
  refine ⟨g, _, rfl, hb, blk_set hg j _, fun i hi => ?_⟩
  obtain ⟨z, hz⟩ := hz i hi
  have hi' := (Array.getElem?_eq_some_iff.1 hz).1
  by_cases hij : j = i
  · subst hij
    exact ⟨x, by simp [hi']⟩
  · exact ⟨z, by simp [hij, hz]⟩

end Go.Proofs.YtipdleiginnjmaaGreatDoor
namespace Go.Proofs.YtipdleiginnjmaaGreatDoor
open Go.RowKit Go.Proofs.YtipdleiginnjmaaGreatDoorW.PrintWords

/-- Something that lies in the blocks S of a world: it stays while these stay. -/
structure Asn where make ::
  pred : World → (Nat → Prop) → Prop
  mono : ∀ {w : World} {S S' : Nat → Prop}, pred w S → (∀ k, S k → k < w.heap.size → S' k) → pred w S'
  move : ∀ {w w' : World} {S : Nat → Prop}, pred w S → (∀ k, S k → k < w.heap.size → w'.heap[k]? = w.heap[k]?) → pred w' S

/-- Side by side, in blocks of S. -/
def Star : List Asn → World → (Nat → Prop) → Prop
  | [], _, _ => True
  | P :: Ps, w, S => ∃ S1 : Nat → Prop, P.pred w S1 ∧ (∀ k, S1 k → S k ∧ k < w.heap.size) ∧ Star Ps w (fun k => S k ∧ ¬ S1 k)

theorem Star.mono : ∀ {Ps : List Asn} {w : World} {S S' : Nat → Prop}, Star Ps w S → (∀ k, S k → k < w.heap.size → S' k) → Star Ps w S'
  | [], _, _, _, _, _ => trivial
  | _ :: _, _, _, _, ⟨S1, h1, h2, h3⟩, hm => ⟨S1, h1, fun k hk => ⟨hm k (h2 k hk).1 (h2 k hk).2, (h2 k hk).2⟩, Star.mono h3 (fun k hk hl => ⟨hm k hk.1 hl, hk.2⟩)⟩
theorem Star.move : ∀ {Ps : List Asn} {w w' : World} {S : Nat → Prop}, Star Ps w S → (∀ k, S k → k < w.heap.size → w'.heap[k]? = w.heap[k]?) → w.heap.size ≤ w'.heap.size → Star Ps w' S
  | [], _, _, _, _, _, _ => trivial
  | P :: _, _, _, _, ⟨S1, h1, h2, h3⟩, hm, hz => ⟨S1, P.move h1 (fun k hk hl => hm k (h2 k hk).1 hl), fun k hk => ⟨(h2 k hk).1, Nat.lt_of_lt_of_le (h2 k hk).2 hz⟩, Star.move h3 (fun k hk hl => hm k hk.1 hl) hz⟩
theorem Star.below {Ps : List Asn} {w w' : World} {S : Nat → Prop} (h : Star Ps w S) (hB : Below w.heap.size w w') : Star Ps w' S := h.move (fun k _ hl => hB.block k hl) hB.size
theorem Star.kept {Ps : List Asn} {w w' : World} {S T : Nat → Prop} (h : Star Ps w S) (hK : Keep T w w') (hd : ∀ k, S k → k < w.heap.size → ¬ T k) : Star Ps w' S := h.move (fun k hk hl => hK.block k hl (hd k hk hl)) hK.size
theorem Star.one {P : Asn} {w : World} {S : Nat → Prop} (h : P.pred w S) : Star [P] w S := ⟨fun k => S k ∧ k < w.heap.size, P.mono h (fun _ hk hl => ⟨hk, hl⟩), fun _ hk => hk, trivial⟩
theorem Star.append : ∀ {Ps Qs : List Asn} {w : World} {S T : Nat → Prop}, Star Ps w S → Star Qs w T → (∀ k, S k → T k → False) → Star (Ps ++ Qs) w (fun k => S k ∨ T k)
  | [], _, _, _, _, _, h2, _ => Star.mono h2 (fun _ hk _ => .inr hk)
  | P :: Ps, Qs, w, S, T, ⟨S1, h1, h2, h3⟩, h4, hd => by
    refine ⟨S1, h1, fun k hk => ⟨.inl (h2 k hk).1, (h2 k hk).2⟩, ?_⟩
    refine Star.mono (Star.append h3 h4 (fun k hk ht => hd k hk.1 ht)) (fun k hk _ => ?_)
    rcases hk with hk | hk
    · exact ⟨.inl hk.1, hk.2⟩
    · exact ⟨.inr hk, fun h => hd k (h2 k h).1 hk⟩
theorem Star.cons {P : Asn} {Ps : List Asn} {w : World} {S T : Nat → Prop} (h1 : P.pred w S) (h2 : Star Ps w T) (hd : ∀ k, S k → T k → False) : Star (P :: Ps) w (fun k => S k ∨ T k) := Star.append (Star.one h1) h2 hd
theorem Star.head {P : Asn} {Ps : List Asn} {w : World} {S : Nat → Prop} (h : Star (P :: Ps) w S) : P.pred w S := by
  obtain ⟨S1, h1, h2, _⟩ := h
  exact P.mono h1 (fun k hk _ => (h2 k hk).1)
theorem Star.tail {P : Asn} {Ps : List Asn} {w : World} {S : Nat → Prop} (h : Star (P :: Ps) w S) : Star Ps w S := by
  obtain ⟨S1, _, _, h3⟩ := h
  exact h3.mono (fun k hk _ => hk.1)
theorem Star.swap {P Q : Asn} {Ps : List Asn} {w : World} {S : Nat → Prop} (h : Star (P :: Q :: Ps) w S) : Star (Q :: P :: Ps) w S := by
  obtain ⟨S1, h1, h2, S2, h3, h4, h5⟩ := h
  exact ⟨S2, h3, fun k hk => ⟨(h4 k hk).1.1, (h4 k hk).2⟩, S1, h1, fun k hk => ⟨⟨(h2 k hk).1, fun e => (h4 k e).1.2 hk⟩, (h2 k hk).2⟩, h5.mono (fun k hk _ => ⟨⟨hk.1.1, hk.2⟩, hk.1.2⟩)⟩
theorem Star.perm {Ps Qs : List Asn} (hp : Ps.Perm Qs) : ∀ {w : World} {S : Nat → Prop}, Star Ps w S → Star Qs w S := by
  induction hp with
  | nil => exact fun h => h
  | cons P _ ih => rintro w S ⟨S1, h1, h2, h3⟩; exact ⟨S1, h1, h2, ih h3⟩
  | swap P Q Ps => exact fun h => h.swap
  | trans _ _ ih1 ih2 => exact fun h => ih2 (ih1 h)
theorem Star.get {P : Asn} : ∀ {Ps : List Asn} {w : World} {S : Nat → Prop}, Star Ps w S → P ∈ Ps → P.pred w S
  | Q :: Ps, w, S, h, hm => by
    rcases List.mem_cons.1 hm with rfl | hm
    · exact h.head
    · exact h.tail.get hm
/-- The first one is used up by a call that keeps all but its blocks; what is left of it comes in its place. -/
theorem Star.use {P : Asn} {Ps : List Asn} {w : World} {S : Nat → Prop} (h : Star (P :: Ps) w S) :
    ∃ S1 : Nat → Prop, P.pred w S1 ∧ (∀ k, S1 k → S k ∧ k < w.heap.size) ∧ ∀ (w' : World) (Qs : List Asn), Keep S1 w w' → Star Qs w' (fun k => S1 k ∨ w.heap.size ≤ k) → Star (Qs ++ Ps) w' (fun k => S k ∨ w.heap.size ≤ k) := by
  obtain ⟨S1, h1, h2, h3⟩ := h
  refine ⟨S1, h1, h2, fun w' Qs hK hQ => ?_⟩
  have h4 := (h3.mono (S' := fun k => (S k ∧ ¬ S1 k) ∧ k < w.heap.size) (fun k hk hl => ⟨hk, hl⟩)).kept hK (fun k hk _ => hk.1.2)
  refine (Star.append hQ h4 (fun k hk ht => ?_)).mono (fun k hk _ => ?_)
  · rcases hk with hk | hk
    · exact ht.1.2 hk
    · have := ht.2; omega
  · rcases hk with (hk | hk) | hk
    · exact .inl (h2 k hk).1
    · exact .inr hk
    · exact .inl hk.1.1

/-- Since w0 these have come; what was there is as it was. -/
def Hp (w0 w : World) (Ps : List Asn) : Prop := Below w0.heap.size w0 w ∧ Star Ps w (fun k => w0.heap.size ≤ k)
section
variable {w0 w w' : World} {P Q : Asn} {Ps Qs : List Asn}
theorem Hp.nil (w : World) : Hp w w [] := ⟨Below.refl _ _, trivial⟩
theorem Hp.of (h : Below w0.heap.size w0 w) : Hp w0 w [] := ⟨h, trivial⟩
theorem Hp.belowW (h : Hp w0 w Ps) : Below w0.heap.size w0 w := h.1
theorem Hp.below (h : Hp w0 w Ps) (hB : Below w.heap.size w w') : Hp w0 w' Ps := ⟨h.1.trans (hB.mono h.1.size), h.2.below hB⟩
theorem Hp.get (h : Hp w0 w Ps) (hm : P ∈ Ps) : P.pred w (fun k => w0.heap.size ≤ k) := h.2.get hm
theorem Hp.head (h : Hp w0 w (P :: Ps)) : P.pred w (fun k => w0.heap.size ≤ k) := h.2.head
theorem Hp.tail (h : Hp w0 w (P :: Ps)) : Hp w0 w Ps := ⟨h.1, h.2.tail⟩
theorem Hp.swap (h : Hp w0 w (P :: Q :: Ps)) : Hp w0 w (Q :: P :: Ps) := ⟨h.1, h.2.swap⟩
theorem Hp.perm (h : Hp w0 w Ps) (hp : Ps.Perm Qs) : Hp w0 w Qs := ⟨h.1, h.2.perm hp⟩
theorem Hp.swap2 {R : Asn} (h : Hp w0 w (P :: Q :: R :: Ps)) : Hp w0 w (P :: R :: Q :: Ps) := h.perm ((List.Perm.swap R Q Ps).cons P)
theorem Hp.up2 {R : Asn} (h : Hp w0 w (P :: Q :: R :: Ps)) : Hp w0 w (R :: P :: Q :: Ps) := h.swap2.swap
theorem Hp.up3 {R T : Asn} (h : Hp w0 w (P :: Q :: R :: T :: Ps)) : Hp w0 w (T :: P :: Q :: R :: Ps) := (h.perm (((List.Perm.swap T R Ps).cons Q).cons P)).up2
theorem Hp.down2 {R : Asn} (h : Hp w0 w (P :: Q :: R :: Ps)) : Hp w0 w (Q :: R :: P :: Ps) := h.swap.swap2
/-- A new one, behind a call that changes nothing. -/
theorem Hp.fresh (h : Hp w0 w Ps) (hB : Below w.heap.size w w') (hQ : Q.pred w' (fun k => w.heap.size ≤ k)) : Hp w0 w' (Q :: Ps) := by
  have hz := h.1.size
  refine ⟨h.1.trans (hB.mono hz), ?_⟩
  have h2 := (h.2.mono (S' := fun k => w0.heap.size ≤ k ∧ k < w.heap.size) (fun k hk hl => ⟨hk, hl⟩)).below hB
  exact (Star.cons hQ h2 (fun k h1 h2 => by omega)).mono (fun k hk _ => by omega)
/-- The first one is used up; what is left of it comes in its place. -/
theorem Hp.use (h : Hp w0 w (P :: Ps)) : ∃ S1 : Nat → Prop, P.pred w S1 ∧ (∀ k, S1 k → w0.heap.size ≤ k ∧ k < w.heap.size) ∧ ∀ (w' : World) (Qs : List Asn), Keep S1 w w' → Star Qs w' (fun k => S1 k ∨ w.heap.size ≤ k) → Hp w0 w' (Qs ++ Ps) := by
  obtain ⟨S1, h1, h2, h3⟩ := h.2.use
  refine ⟨S1, h1, h2, fun w' Qs hK hQ => ⟨hK.below h.1 h.1.size (fun k _ hk => (h2 k hk).1), (h3 w' Qs hK hQ).mono (fun k hk _ => ?_)⟩⟩
  have := h.1.size
  rcases hk with hk | hk <;> omega
theorem Hp.use1 (h : Hp w0 w (P :: Ps)) : ∃ S1 : Nat → Prop, P.pred w S1 ∧ ∀ (w' : World) (Q : Asn), Keep S1 w w' → Q.pred w' (fun k => S1 k ∨ w.heap.size ≤ k) → Hp w0 w' (Q :: Ps) := by
  obtain ⟨S1, h1, _, h3⟩ := h.use
  exact ⟨S1, h1, fun w' Q hK hQ => h3 w' [Q] hK (Star.one hQ)⟩
end

/-- A block that holds o. -/
def ABlk (g : Nat) (o : Obj) : Asn where
  pred w S := S g ∧ w.heap[g]? = some o
  mono h hm := ⟨hm g h.1 (Array.getElem?_eq_some_iff.1 h.2).1, h.2⟩
  move h hm := ⟨h.1, (hm g h.1 (Array.getElem?_eq_some_iff.1 h.2).1).trans h.2⟩
theorem Hp.alloc {w0 w : World} {Ps : List Asn} (h : Hp w0 w Ps) (o : Obj) : Hp w0 (w.alloc o) (ABlk w.heap.size o :: Ps) := h.fresh (below_alloc (Below.refl _ _) _) ⟨Nat.le_refl _, heap_alloc_new w o⟩
theorem Hp.blk {w0 w : World} {Ps : List Asn} {g : Nat} {o : Obj} (h : Hp w0 w Ps) (hm : ABlk g o ∈ Ps) : w.heap[g]? = some o := (h.get hm).2
theorem Hp.blk0 {w0 w : World} {Ps : List Asn} {g : Nat} {o : Obj} (h : Hp w0 w (ABlk g o :: Ps)) : w.heap[g]? = some o := h.blk (List.mem_cons_self ..)
theorem Hp.blk1 {w0 w : World} {P : Asn} {Ps : List Asn} {g : Nat} {o : Obj} (h : Hp w0 w (P :: ABlk g o :: Ps)) : w.heap[g]? = some o := h.tail.blk0
theorem Hp.blk2 {w0 w : World} {P Q : Asn} {Ps : List Asn} {g : Nat} {o : Obj} (h : Hp w0 w (P :: Q :: ABlk g o :: Ps)) : w.heap[g]? = some o := h.tail.blk1
theorem Hp.blk3 {w0 w : World} {P Q R : Asn} {Ps : List Asn} {g : Nat} {o : Obj} (h : Hp w0 w (P :: Q :: R :: ABlk g o :: Ps)) : w.heap[g]? = some o := h.tail.blk2
theorem Hp.forget {w0 w : World} {Ps : List Asn} (h : Hp w0 w Ps) : Hp w0 w [] := ⟨h.1, trivial⟩
theorem Star.only1 {w : World} {S : Nat → Prop} {P : Asn} {Ps : List Asn} (h : Star (P :: Ps) w S) : Star [P] w S := by
  obtain ⟨S1, h1, h2, _⟩ := h
  exact ⟨S1, h1, h2, trivial⟩
theorem Hp.only1 {w0 w : World} {P : Asn} {Ps : List Asn} (h : Hp w0 w (P :: Ps)) : Hp w0 w [P] := ⟨h.1, h.2.only1⟩
theorem Hp.only2 {w0 w : World} {P Q : Asn} {Ps : List Asn} (h : Hp w0 w (P :: Q :: Ps)) : Hp w0 w [P, Q] := by
  obtain ⟨h1, S1, h2, h3, h4⟩ := h
  exact ⟨h1, S1, h2, h3, h4.only1⟩
theorem Hp.drop1 {w0 w : World} {P Q : Asn} {Ps : List Asn} (h : Hp w0 w (P :: Q :: Ps)) : Hp w0 w (P :: Ps) := h.swap.tail
theorem Hp.drop2 {w0 w : World} {P Q R : Asn} {Ps : List Asn} (h : Hp w0 w (P :: Q :: R :: Ps)) : Hp w0 w (P :: Q :: Ps) := h.up2.tail
/-- A row of the call's own. -/
def ARow {α : Type} (d : Kd α) (e : Nat) (v : Value) (xs : List α) : Asn where
  pred w S := d.R e w 0 S v xs
  mono h hm := Kd.R_mono (Kd.R_bound h) (fun k hk => hm k hk.1 hk.2.2.1)
  move h hm := Kd.R_step h hm
theorem Hp.row {α : Type} {d : Kd α} {e : Nat} {w0 w w' : World} {Ps : List Asn} {ok : Nat → Prop} {v : Value} {xs : List α} (h : Hp w0 w Ps) (hB : Below w.heap.size w w') (hR : d.R e w' w.heap.size ok v xs) : Hp w0 w' (ARow d e v xs :: Ps) :=
  h.fresh hB (Kd.R_lower (Kd.R_mono (Kd.R_bound hR) (fun _ hk => hk.2.1)) (Nat.zero_le _))
/-- A row of the call's own, ahead of an append and behind it. -/
theorem Hp.appended {α : Type} {d : Kd α} {e : Nat} {w0 W : World} {Ps : List Asn} {v : Value} {xs : List α} (h : Hp w0 W (ARow d e v xs :: Ps)) :
    ∃ ok : Nat → Prop, d.R e W 0 ok v xs ∧ (∀ k, W.heap.size ≤ k → ok k) ∧ ∀ (v1 : Value) (w1 : World) (ys : List α), d.R e w1 0 ok v1 ys → W.grownBy w1 v.ownBlock → Hp w0 w1 (ARow d e v1 ys :: Ps) := by
  obtain ⟨S1, h1, h2⟩ := h.use1
  have h1 : d.R e W 0 S1 v xs := h1
  refine ⟨fun k => S1 k ∨ W.heap.size ≤ k, Kd.R_mono h1 (fun _ hk => .inl hk), fun _ hk => .inr hk, fun v1 w1 ys hR hg => h2 w1 (ARow d e v1 ys) ⟨hg.os, hg.tape, hg.output, hg.size, fun k hk hn => hg.block k hk (fun e' => hn (h1.1 k e'.symm))⟩ hR⟩
end Go.Proofs.YtipdleiginnjmaaGreatDoor
namespace Go.Proofs.YtipdleiginnjmaaGreatDoor
open Go.RowKit Go.Proofs.YtipdleiginnjmaaGreatDoorW.PrintWords

theorem lt_of_same {w w' : World} {k : Nat} (hk : k < w.heap.size) (h : w'.heap[k]? = w.heap[k]?) : k < w'.heap.size := by
  rw [Array.getElem?_eq_getElem hk] at h
  exact (Array.getElem?_eq_some_iff.1 h).1
theorem Star.move' : ∀ {Ps : List Asn} {w w' : World} {S : Nat → Prop}, Star Ps w S → (∀ k, S k → k < w.heap.size → w'.heap[k]? = w.heap[k]?) → Star Ps w' S
  | [], _, _, _, _, _ => trivial
  | P :: _, _, _, _, ⟨S1, h1, h2, h3⟩, hm => ⟨S1, P.move h1 (fun k hk hl => hm k (h2 k hk).1 hl), fun k hk => ⟨(h2 k hk).1, lt_of_same (h2 k hk).2 (hm k (h2 k hk).1 (h2 k hk).2)⟩, Star.move' h3 (fun k hk hl => hm k hk.1 hl)⟩
/-- Some objects as one. -/
def AStar (Ps : List Asn) : Asn where
  pred w S := Star Ps w S
  mono h hm := Star.mono h hm
  move h hm := Star.move' h hm
/-- One of many. -/
def AEx {α : Type} (f : α → Asn) : Asn where
  pred w S := ∃ a, (f a).pred w S
  mono h hm := by obtain ⟨a, h⟩ := h; exact ⟨a, (f a).mono h hm⟩
  move h hm := by obtain ⟨a, h⟩ := h; exact ⟨a, (f a).move h hm⟩
/-- With a fact. -/
def AIf (p : Prop) (P : Asn) : Asn where
  pred w S := p ∧ P.pred w S
  mono h hm := ⟨h.1, P.mono h.2 hm⟩
  move h hm := ⟨h.1, P.move h.2 hm⟩
theorem Star.split : ∀ {Qs Ps : List Asn} {w : World} {S : Nat → Prop}, Star (Qs ++ Ps) w S → ∃ T : Nat → Prop, Star Qs w T ∧ (∀ k, T k → S k ∧ k < w.heap.size) ∧ Star Ps w (fun k => S k ∧ ¬ T k)
  | [], _, _, _, h => ⟨fun _ => False, trivial, fun _ hk => hk.elim, Star.mono h (fun _ hk _ => ⟨hk, fun e => e⟩)⟩
  | Q :: Qs, Ps, w, S, ⟨S1, h1, h2, h3⟩ => by
    obtain ⟨T, h4, h5, h6⟩ := Star.split (Qs := Qs) (Ps := Ps) h3
    refine ⟨fun k => S1 k ∨ T k, Star.cons h1 h4 (fun k a b => (h5 k b).1.2 a), fun k hk => ?_, Star.mono h6 (fun k hk _ => ?_)⟩
    · rcases hk with hk | hk
      · exact h2 k hk
      · exact ⟨(h5 k hk).1.1, (h5 k hk).2⟩
    · exact ⟨hk.1.1, fun e => e.elim hk.1.2 hk.2⟩
section
variable {w0 w : World} {Ps Qs : List Asn}
theorem Hp.unstar (h : Hp w0 w (AStar Qs :: Ps)) : Hp w0 w (Qs ++ Ps) := by
  obtain ⟨S1, h1, _, h2⟩ := h.use
  exact h2 w Qs (Keep.refl _ _) (Star.mono h1 (fun _ hk _ => .inl hk))
theorem Hp.star (h : Hp w0 w (Qs ++ Ps)) : Hp w0 w (AStar Qs :: Ps) := by
  obtain ⟨T, h1, h2, h3⟩ := Star.split h.2
  exact ⟨h.1, T, h1, h2, h3⟩
theorem Hp.unex {α : Type} {f : α → Asn} (h : Hp w0 w (AEx f :: Ps)) : ∃ a, Hp w0 w (f a :: Ps) := by
  obtain ⟨hb, S1, ⟨a, h1⟩, h2, h3⟩ := h
  exact ⟨a, hb, S1, h1, h2, h3⟩
theorem Hp.ex {α : Type} {f : α → Asn} (a : α) (h : Hp w0 w (f a :: Ps)) : Hp w0 w (AEx f :: Ps) := by
  obtain ⟨hb, S1, h1, h2, h3⟩ := h
  exact ⟨hb, S1, ⟨a, h1⟩, h2, h3⟩
theorem Hp.unif {p : Prop} {P : Asn} (h : Hp w0 w (AIf p P :: Ps)) : p ∧ Hp w0 w (P :: Ps) := by
  obtain ⟨hb, S1, ⟨hp, h1⟩, h2, h3⟩ := h
  exact ⟨hp, hb, S1, h1, h2, h3⟩
theorem Hp.if_ {p : Prop} {P : Asn} (hp : p) (h : Hp w0 w (P :: Ps)) : Hp w0 w (AIf p P :: Ps) := by
  obtain ⟨hb, S1, h1, h2, h3⟩ := h
  exact ⟨hb, S1, ⟨hp, h1⟩, h2, h3⟩
end
end Go.Proofs.YtipdleiginnjmaaGreatDoor
namespace Go.Proofs.YtipdleiginnjmaaGreatDoor
open Go.RowKit Go.Maps Go.Proofs.YtipdleiginnjmaaGreatDoorW.PrintWords

/-- An element of whatever type reads as itself. -/
def anyV (v : Value) : Option (DataW Value × List MemPlace) := some (.held v, [])

/-- A key's type: how a key stands as a value, and as what it reads. -/
structure KeyKd (P : Program) (k : TypeId) (α : Type) where make ::
  val : α → Value
  lit : α → Lit
  ok : α → Prop
  law : Keyed P k
  of : ∀ {a : α}, ok a → keyOf P k (val a) = some (lit a)
  inv : ∀ {v : Value} {kl : Lit}, keyOf P k v = some kl → ∃ a, ok a ∧ v = val a ∧ kl = lit a
  inj : ∀ {a b : α}, lit a = lit b → a = b
  isk : ∀ a : α, WideAt.IsKeyLit (lit a)

def intKey {P : Program} {k : TypeId} (hk : P.underlying k = some (.int .i64)) : KeyKd P k Int where
  val := .int .i64
  lit := .int .i64
  ok := fun a => (Lit.int .i64 a).wf = true
  law := int_keyed hk
  of := fun h => keyOf_int_mk hk h
  inv := fun h => by obtain ⟨x, rfl, rfl, hw⟩ := Maps.keyOf_int_inv hk h; exact ⟨x, hw, rfl, rfl⟩
  inj := fun h => by injection h
  isk := fun _ => trivial
theorem keyOf_string_inv {P : Program} {k : TypeId} (hk : P.underlying k = some .string) {key : Value} {kl : Lit} (h : keyOf P k key = some kl) : ∃ s : ByteArray, key = .string s ∧ kl = .string s.data.toList ∧ s.size ≤ maxLen := by
  cases key <;> simp [keyOf, hk, mapKey] at h
  obtain ⟨hw, rfl⟩ := h
  exact ⟨_, rfl, rfl, hw⟩
def strKey {P : Program} {k : TypeId} (hk : P.underlying k = some .string) : KeyKd P k ByteArray where
  val := .string
  lit := fun s => .string s.data.toList
  ok := fun s => s.size ≤ maxLen
  law := string_keyed hk
  of := fun h => by simp [keyOf, hk, mapKey, h]
  inv := fun h => by obtain ⟨s, rfl, rfl, hs⟩ := keyOf_string_inv hk h; exact ⟨s, hs, rfl, rfl⟩
  inj := fun {a b} h => by
    injection h with h
    have : a.data = b.data := Array.toList_inj.1 h
    cases a; cases b; simp_all
  isk := fun _ => trivial

section
variable {α β : Type} [DecidableEq α]
def mget (ps : List (α × β)) (a : α) : Option β := (ps.find? (fun p => decide (p.1 = a))).map (·.2)
def mdel (ps : List (α × β)) (a : α) : List (α × β) := ps.filter (fun p => decide (p.1 ≠ a))
def mput (ps : List (α × β)) (a : α) (x : β) : List (α × β) := (a, x) :: mdel ps a

theorem mget_nil (a : α) : mget ([] : List (α × β)) a = none := rfl
theorem mget_cons (p : α × β) (ps : List (α × β)) (a : α) : mget (p :: ps) a = if p.1 = a then some p.2 else mget ps a := by
  unfold mget
  by_cases h : p.1 = a <;> simp [h]
theorem mget_del_same (ps : List (α × β)) (a : α) : mget (mdel ps a) a = none := by
  unfold mget mdel
  rw [List.find?_eq_none.2 (fun p hp => by simpa using (List.mem_filter.1 hp).2)]
  rfl
theorem mget_del_other (ps : List (α × β)) {a b : α} (h : b ≠ a) : mget (mdel ps a) b = mget ps b := by
  unfold mget mdel
  rw [Maps.find_filter_keep (fun p hp => by
    simp only [decide_eq_true_eq] at hp ⊢
    exact fun e => h (hp.symm.trans e))]
theorem mget_put_same (ps : List (α × β)) (a : α) (x : β) : mget (mput ps a x) a = some x := by
  unfold mput
  rw [mget_cons, if_pos rfl]
theorem mget_put_other (ps : List (α × β)) {a b : α} (x : β) (h : b ≠ a) : mget (mput ps a x) b = mget ps b := by
  unfold mput
  rw [mget_cons, if_neg (fun e => h e.symm), mget_del_other ps h]
theorem mget_some {ps : List (α × β)} {a : α} {x : β} (h : mget ps a = some x) : (a, x) ∈ ps := by
  unfold mget at h
  obtain ⟨p, hp, rfl⟩ := Option.map_eq_some_iff.1 h
  have h1 := List.mem_of_find?_eq_some hp
  have h2 : p.1 = a := by simpa using List.find?_some hp
  rw [← h2]
  exact h1
theorem mget_none {ps : List (α × β)} {a : α} : mget ps a = none ↔ ∀ p ∈ ps, p.1 ≠ a := by
  unfold mget
  rw [Option.map_eq_none_iff, List.find?_eq_none]
  simp
theorem mget_mem {ps : List (α × β)} (hn : (ps.map (·.1)).Nodup) {p : α × β} (hp : p ∈ ps) : mget ps p.1 = some p.2 := by
  induction ps with
  | nil => simp at hp
  | cons q qs ih =>
    rw [mget_cons]
    rw [List.map_cons, List.nodup_cons] at hn
    rcases List.mem_cons.1 hp with rfl | hp
    · rw [if_pos rfl]
    · rw [if_neg (fun e => hn.1 (by rw [e]; exact List.mem_map_of_mem hp)), ih hn.2 hp]
theorem mget_iff {ps : List (α × β)} (hn : (ps.map (·.1)).Nodup) {a : α} {x : β} : mget ps a = some x ↔ (a, x) ∈ ps := ⟨mget_some, fun h => mget_mem hn h⟩
theorem mget_perm {ps qs : List (α × β)} (hn : (ps.map (·.1)).Nodup) (hp : ps.Perm qs) (a : α) : mget qs a = mget ps a := by
  have hq : (qs.map (·.1)).Nodup := (hp.map _).nodup_iff.1 hn
  cases h : mget ps a with
  | some x => exact (mget_iff hq).2 (hp.mem_iff.1 ((mget_iff hn).1 h))
  | none => exact mget_none.2 (fun p hm => mget_none.1 h p (hp.mem_iff.2 hm))
theorem mdel_keys {ps : List (α × β)} (hn : (ps.map (·.1)).Nodup) (a : α) : ((mdel ps a).map (·.1)).Nodup := (List.Sublist.map _ List.filter_sublist).nodup hn
theorem mput_keys {ps : List (α × β)} (hn : (ps.map (·.1)).Nodup) (a : α) (x : β) : ((mput ps a x).map (·.1)).Nodup := by
  unfold mput
  rw [List.map_cons, List.nodup_cons]
  refine ⟨fun h => ?_, mdel_keys hn a⟩
  obtain ⟨p, hp, e⟩ := List.mem_map.1 h
  have := (List.mem_filter.1 hp).2
  simp at this
  exact this e
theorem mdel_length {ps : List (α × β)} (hn : (ps.map (·.1)).Nodup) (a : α) : (mdel ps a).length + (if (mget ps a).isSome then 1 else 0) = ps.length := by
  induction ps with
  | nil => rfl
  | cons p ps ih =>
    rw [List.map_cons, List.nodup_cons] at hn
    have ih := ih hn.2
    rw [mget_cons]
    unfold mdel at ih ⊢
    by_cases h : p.1 = a
    · have h0 : mget ps a = none := mget_none.2 (fun q hq e => hn.1 (by rw [h, ← e]; exact List.mem_map_of_mem hq))
      rw [h0] at ih
      simp only [List.filter_cons, h, if_pos, ne_eq, not_true, decide_false, Bool.false_eq_true, if_false, Option.isSome_some, List.length_cons] at ih ⊢
      simpa using ih
    · simp only [List.filter_cons, h, if_false, ne_eq, not_false_iff, decide_true, if_true, List.length_cons] at ih ⊢
      omega
theorem mput_length {ps : List (α × β)} (hn : (ps.map (·.1)).Nodup) (a : α) (x : β) : (mput ps a x).length = if (mget ps a).isSome then ps.length else ps.length + 1 := by
  have := mdel_length hn a
  unfold mput
  rw [List.length_cons]
  split at this <;> simp_all <;> omega
theorem mdel_none {ps : List (α × β)} {a : α} (h : mget ps a = none) : mdel ps a = ps := by
  unfold mdel
  exact List.filter_eq_self.2 (fun p hp => by simpa using mget_none.1 h p hp)
end

section
variable {α β : Type} [DecidableEq α] {P : Program} {k : TypeId}

/-- Block b is a map that holds the entries ps. -/
def MapAt (K : KeyKd P k α) (enc : β → Value) (w : World) (b : Nat) (ps : List (α × β)) : Prop :=
  ∃ D : DataW Value, w.ownsMap P k anyV b ps.length D ∧ (ps.map (·.1)).Nodup ∧ (∀ p ∈ ps, K.ok p.1) ∧ Maps.size D = ps.length ∧
    ∀ a, Maps.has D (K.lit a) = (mget ps a).isSome ∧ ∀ zd, D.atKey (K.lit a) zd = ((mget ps a).map (fun x => DataW.held (enc x))).getD zd

variable {K : KeyKd P k α} {enc : β → Value} {w w' : World} {b : Nat} {ps : List (α × β)}

theorem MapAt.nodup (h : MapAt K enc w b ps) : (ps.map (·.1)).Nodup := let ⟨_, _, h, _⟩ := h; h
theorem MapAt.oks (h : MapAt K enc w b ps) : ∀ p ∈ ps, K.ok p.1 := let ⟨_, _, _, h, _⟩ := h; h
theorem MapAt.lt (h : MapAt K enc w b ps) : b < w.heap.size := let ⟨_, h, _⟩ := h; h.lt
theorem MapAt.move (h : MapAt K enc w b ps) (hb : w'.heap[b]? = w.heap[b]?) : MapAt K enc w' b ps := by
  obtain ⟨D, ⟨es, clock, h1, h2⟩, h3⟩ := h
  exact ⟨D, ⟨es, clock, hb.trans h1, h2⟩, h3⟩
theorem MapAt.below (h : MapAt K enc w b ps) (hb : Below w.heap.size w w') : MapAt K enc w' b ps := h.move (hb.block b h.lt)
theorem MapAt.perm {qs : List (α × β)} (h : MapAt K enc w b ps) (hp : ps.Perm qs) : MapAt K enc w b qs := by
  obtain ⟨D, h1, h2, h3, h4, h5⟩ := h
  refine ⟨D, by rw [← hp.length_eq]; exact h1, (hp.map _).nodup_iff.1 h2, fun p hm => h3 p (hp.mem_iff.2 hm), by rw [← hp.length_eq]; exact h4, fun a => ?_⟩
  rw [mget_perm h2 hp]
  exact h5 a
theorem MapAt.not_cells (h : MapAt K enc w b ps) {cs : Array Value} {t : TypeId} {q : Nat × Nat} : w.heap[b]? ≠ some (.cells cs t q) := by
  obtain ⟨D, ⟨es, clock, h1, _⟩, _⟩ := h
  rw [h1]
  intro e
  injection e with e
  cases e
theorem MapAt.ne_cells (h : MapAt K enc w b ps) {g : Nat} {cs : Array Value} {t : TypeId} {q : Nat × Nat} (hg : w.heap[g]? = some (.cells cs t q)) : b ≠ g := fun e => h.not_cells (e ▸ hg)
theorem MapAt.made (K : KeyKd P k α) (enc : β → Value) (w : World) : MapAt K enc (w.alloc (.map #[] 0)) w.heap.size [] :=
  ⟨.map [], World.ownsMap_made w P k anyV, by simp, by simp, rfl, fun a => ⟨rfl, fun zd => rfl⟩⟩

theorem MapAt.clone (h : MapAt K enc w b ps) : ∃ es clock, w.heap[b]? = some (.map es clock) ∧ ∀ (W : World) (c : Nat), W.heap[c]? = some (.map es clock) → MapAt K enc W c ps := by
  obtain ⟨D, ⟨es, clock, h1, h2⟩, h3⟩ := h
  exact ⟨es, clock, h1, fun W c hc => ⟨D, ⟨es, clock, hc, h2⟩, h3⟩⟩
theorem MapAt.look (h : MapAt K enc w b ps) {t e : TypeId} (ht : P.underlying t = some (.map k e)) {z : Value} (hz : (zeroValue e).run P w = .ok z w) {a : α} (ha : K.ok a) :
    (Instr.lookup t (.map (some b)) (K.val a) true).run P w = .ok (.tuple #[((mget ps a).map enc).getD z, .bool (mget ps a).isSome]) w := by
  obtain ⟨D, h1, h2, h3, h4, h5⟩ := h
  obtain ⟨v, q, hrun, hv⟩ := h1.look_ok K.law ht hz (zd := .held z) (zp := []) rfl (K.of ha)
  rw [hrun, (h5 a).1]
  have := (h5 a).2 (.held z)
  unfold anyV at hv
  rw [this] at hv
  injection hv with hv
  injection hv with hv _
  have : v = ((mget ps a).map enc).getD z := by
    cases hm : mget ps a with
    | none => rw [hm] at hv; simpa using hv
    | some x => rw [hm] at hv; simpa using hv
  rw [this]
theorem MapAt.look1 (h : MapAt K enc w b ps) {t e : TypeId} (ht : P.underlying t = some (.map k e)) {z : Value} (hz : (zeroValue e).run P w = .ok z w) {a : α} (ha : K.ok a) :
    (Instr.lookup t (.map (some b)) (K.val a) false).run P w = .ok (((mget ps a).map enc).getD z) w := by
  obtain ⟨D, h1, h2, h3, h4, h5⟩ := h
  obtain ⟨v, q, hrun, hv⟩ := h1.lookup K.law ht hz (zd := .held z) (zp := []) rfl (K.of ha)
  rw [hrun]
  have := (h5 a).2 (.held z)
  unfold anyV at hv
  rw [this] at hv
  injection hv with hv
  injection hv with hv _
  have : v = ((mget ps a).map enc).getD z := by
    cases hm : mget ps a with
    | none => rw [hm] at hv; simpa using hv
    | some x => rw [hm] at hv; simpa using hv
  rw [this]
theorem MapAt.len (h : MapAt K enc w b ps) {t e : TypeId} (ht : P.underlying t = some (.map k e)) (ty : TypeId) : (Builtin.len_ #[t] ty #[.map (some b)]).run P w = .ok (.int .i64 ps.length) w := by
  obtain ⟨D, h1, h2, h3, h4, h5⟩ := h
  rw [h1.len ht ty, h4]

/-- w' is w but for block b. -/
def ButB (w w' : World) (b : Nat) : Prop := w'.os = w.os ∧ w'.tape = w.tape ∧ w'.output = w.output ∧ w'.heap.size = w.heap.size ∧ ∀ i, i ≠ b → w'.heap[i]? = w.heap[i]?
theorem ButB.of_turned (h : w.mapTurned w' b) : ButB w w' b := by
  obtain ⟨es, clock, es', clock', hb, rfl⟩ := h
  exact ⟨rfl, rfl, rfl, by simp [ChangeMaps.setBlock], fun i hi => ChangeMaps.heap_setBlock_other hb _ (fun e => hi e)⟩
theorem ButB.keep {S : Nat → Prop} (h : ButB w w' b) (hb : S b) : Keep S w w' := ⟨h.1, h.2.1, h.2.2.1, by rw [h.2.2.2.1]; exact Nat.le_refl _, fun k _ hn => h.2.2.2.2 k (fun e => hn (e ▸ hb))⟩
theorem ButB.below {B : Nat} {w0 : World} (h : ButB w w' b) (h0 : Below B w0 w) (hb : B ≤ b) : Below B w0 w' := ⟨h.1.trans h0.os, h.2.1.trans h0.tape, h.2.2.1.trans h0.output, by rw [h.2.2.2.1]; exact h0.size, fun k hk => (h.2.2.2.2 k (by omega)).trans (h0.block k hk)⟩
theorem ButB.cell (h : ButB w w' b) {a : Addr} {v : Value} (hc : w.cell? a = some v) (hne : a.block ≠ b) : w'.cell? a = some v := by
  have := h.2.2.2.2 a.block hne
  unfold World.cell? at hc ⊢
  rw [this]
  exact hc
theorem ButB.blk (h : ButB w w' b) {g : Nat} {o : Obj} (hg : w.heap[g]? = some o) (hne : g ≠ b) : w'.heap[g]? = some o := (h.2.2.2.2 g hne).trans hg

theorem MapAt.put (h : MapAt K enc w b ps) {t e : TypeId} (ht : P.underlying t = some (.map k e)) (hl : ps.length < maxLen) {a : α} (ha : K.ok a) (x : β) :
    ∃ w', (Instr.mapUpdate t (.map (some b)) (K.val a) (enc x)).run P w = .ok () w' ∧ MapAt K enc w' b (mput ps a x) ∧ ButB w w' b := by
  obtain ⟨D, h1, h2, h3, h4, h5⟩ := h
  obtain ⟨w', hrun, hown, hturn⟩ := h1.store K.law ht hl (K.of ha) (val := enc x) (d := .held (enc x)) (ps := []) rfl
  have hI := h1.isMap
  have hT := h1.tidy K.law
  have hsz : Maps.size (D.put (K.lit a) (.held (enc x))) = (mput ps a x).length := by
    rw [Maps.size_put hT, mput_length h2, (h5 a).1, h4]
  refine ⟨w', hrun, ⟨D.put (K.lit a) (.held (enc x)), ?_, mput_keys h2 a x, ?_, hsz, fun c => ?_⟩, ButB.of_turned hturn⟩
  · obtain ⟨es, clock, g1, g2, g3, g4⟩ := hown
    refine ⟨es, clock, g1, g2, ?_, g4⟩
    rw [← hsz, g4]
    simp [Maps.size, length_sorted]
  · intro p hp
    rcases List.mem_cons.1 hp with rfl | hp
    · exact ha
    · exact h3 p (List.mem_filter.1 hp).1
  · by_cases hc : c = a
    · subst hc
      rw [mget_put_same]
      exact ⟨Maps.has_put_same hI (K.isk _) _, fun zd => Maps.atKey_put_same hI (K.isk _) _ _⟩
    · have hne : K.lit c ≠ K.lit a := fun e => hc (K.inj e)
      rw [mget_put_other ps x hc]
      exact ⟨(Maps.has_put_other hne _).trans (h5 c).1, fun zd => (Maps.atKey_put_other hne _ _).trans ((h5 c).2 zd)⟩
theorem MapAt.del (h : MapAt K enc w b ps) {t e : TypeId} (ht : P.underlying t = some (.map k e)) {a : α} (ha : K.ok a) (ty : TypeId) :
    ∃ w', (Builtin.delete_ #[t, k] ty #[.map (some b), K.val a]).run P w = .ok (.tuple #[]) w' ∧ MapAt K enc w' b (mdel ps a) ∧ ButB w w' b := by
  obtain ⟨D, h1, h2, h3, h4, h5⟩ := h
  obtain ⟨w', hrun, hown, hturn⟩ := h1.drop K.law ht (K.of ha) ty
  have hT := h1.tidy K.law
  have hsz : Maps.size (D.del (K.lit a)) = (mdel ps a).length := by
    have e1 := Maps.size_del (k := K.lit a) hT
    have e2 := mdel_length h2 a
    rw [(h5 a).1, h4] at e1
    omega
  refine ⟨w', hrun, ⟨D.del (K.lit a), ?_, mdel_keys h2 a, fun p hp => h3 p (List.mem_filter.1 hp).1, hsz, fun c => ?_⟩, ButB.of_turned hturn⟩
  · obtain ⟨es, clock, g1, g2, g3, g4⟩ := hown
    refine ⟨es, clock, g1, g2, ?_, g4⟩
    rw [← hsz, g4]
    simp [Maps.size, length_sorted]
  · by_cases hc : c = a
    · subst hc
      rw [mget_del_same]
      exact ⟨Maps.has_del_same, fun zd => Maps.atKey_del_same _⟩
    · have hne : K.lit c ≠ K.lit a := fun e => hc (K.inj e)
      rw [mget_del_other ps hc]
      exact ⟨(Maps.has_del_other hne).trans (h5 c).1, fun zd => (Maps.atKey_del_other hne _).trans ((h5 c).2 zd)⟩

/-- A range over the map of block b is under way (its block r): todo is what is still to come. -/
def RangeAt (K : KeyKd P k α) (enc : β → Value) (w : World) (b r : Nat) (ps todo : List (α × β)) : Prop :=
  MapAt K enc w b ps ∧ (todo.map (·.1)).Nodup ∧ (∀ p ∈ todo, p ∈ ps) ∧ ∃ (D : DataW Value) (left : Lit → Bool) (cnt : Nat), w.ranges P k anyV b r ps.length D left cnt ∧
    (∀ a, Maps.has D (K.lit a) = (mget ps a).isSome ∧ ∀ zd, D.atKey (K.lit a) zd = ((mget ps a).map (fun x => DataW.held (enc x))).getD zd) ∧
    ∀ a, K.ok a → left (K.lit a) = (mget todo a).isSome

theorem RangeAt.move {r : Nat} {todo : List (α × β)} (h : RangeAt K enc w b r ps todo) (hb : w'.heap[b]? = w.heap[b]?) (hr : w'.heap[r]? = w.heap[r]?) : RangeAt K enc w' b r ps todo := by
  obtain ⟨h1, h2, h3, D, left, cnt, ⟨es, clock, since, seen, c0, g1, g2, g3, g4, g5, g6⟩, h5⟩ := h
  exact ⟨h1.move hb, h2, h3, D, left, cnt, ⟨es, clock, since, seen, c0, hb.trans g1, g2, g3, g4, hr.trans g5, g6⟩, h5⟩
theorem RangeAt.lt {r : Nat} {todo : List (α × β)} (h : RangeAt K enc w b r ps todo) : b < w.heap.size ∧ r < w.heap.size ∧ r ≠ b := by
  obtain ⟨h1, _, _, D, left, cnt, h4, _⟩ := h
  exact ⟨h1.lt, h4.lt, h4.ne⟩
theorem RangeAt.map {r : Nat} {todo : List (α × β)} (h : RangeAt K enc w b r ps todo) : MapAt K enc w b ps := h.1
theorem MapAt.range (h : MapAt K enc w b ps) {t e : TypeId} (ht : P.underlying t = some (.map k e)) :
    ∃ w', (Instr.range t (.map (some b))).run P w = .ok (.pointer (some ⟨w.heap.size, 0, none⟩)) w' ∧ RangeAt K enc w' b w.heap.size ps ps ∧ Below w.heap.size w w' ∧ w'.heap.size = w.heap.size + 1 := by
  have hM := h
  obtain ⟨D, h1, h2, h3, h4, h5⟩ := h
  obtain ⟨w', hrun, hr, hg, hs⟩ := h1.range K.law ht
  have hB : Below w.heap.size w w' := ⟨hg.os, hg.tape, hg.output, hg.size, fun i hi => hg.block i hi (by simp)⟩
  exact ⟨w', hrun, ⟨hM.below hB, h2, fun _ hp => hp, D, Maps.has D, _, hr, h5, fun a _ => (h5 a).1⟩, hB, hs⟩
theorem RangeAt.next {r : Nat} {todo : List (α × β)} (h : RangeAt K enc w b r ps todo) (ty : TypeId) :
    (todo = [] ∧ (Instr.next (.pointer (some ⟨r, 0, none⟩)) false ty).run P w = .ok (.tuple #[.bool false]) w) ∨
    ∃ (a : α) (x : β) (todo' : List (α × β)) (w' : World), todo.Perm ((a, x) :: todo') ∧ (a, x) ∈ ps ∧ K.ok a ∧ (Instr.next (.pointer (some ⟨r, 0, none⟩)) false ty).run P w = .ok (.tuple #[.bool true, K.val a, enc x]) w' ∧
      RangeAt K enc w' b r ps todo' ∧ ButB w w' r ∧ (Instr.entry (.pointer (some ⟨r, 0, none⟩))).run P w' = .ok (.tuple #[K.val a, enc x]) w' := by
  obtain ⟨h1, h2, h3, D, left, cnt, h4, h5, h6⟩ := h
  rcases h4.next K.law ty with ⟨_, hc, hrun⟩ | ⟨key, v, kl, y, w', cnt', hkey, hleft, hR, hat, hrun, hr', hlt, hg, hs, hen⟩
  · refine .inl ⟨?_, hrun⟩
    cases todo with
    | nil => rfl
    | cons p ps' =>
      have := h6 p.1 (h1.oks p (h3 p (by simp)))
      rw [hc, mget_cons, if_pos rfl] at this
      cases this
  · obtain ⟨a, ha, rfl, rfl⟩ := K.inv hkey
    have hm : (mget todo a).isSome = true := by rw [← h6 a ha]; exact hleft
    obtain ⟨x, hx⟩ := Option.isSome_iff_exists.1 hm
    have hmem := mget_some hx
    have hp : mget ps a = some x := mget_mem h1.nodup (h3 _ hmem)
    have hval := (h5 a).2 .nil
    rw [hp, hat .nil] at hval
    injection hR with hR
    rw [← hR] at hval
    have hv : v = enc x := by simpa using hval
    subst hv
    have hperm : todo.Perm ((a, x) :: mdel todo a) := by
      obtain ⟨l1, l2, rfl⟩ := List.append_of_mem hmem
      refine List.perm_middle.trans (List.Perm.cons _ ?_)
      have hn : ∀ p ∈ l1 ++ l2, p.1 ≠ a := by
        intro p hp' e
        have h2' := ((List.perm_middle (a := (a, x)) (l₁ := l1) (l₂ := l2)).map (fun p : α × β => p.1)).nodup_iff.1 h2
        rw [List.map_cons, List.nodup_cons] at h2'
        exact h2'.1 (List.mem_map.2 ⟨p, hp', e⟩)
      have e : mdel (l1 ++ (a, x) :: l2) a = l1 ++ l2 := by
        unfold mdel
        rw [List.filter_append, List.filter_cons]
        simp only [ne_eq, not_true, decide_false, Bool.false_eq_true, if_false]
        rw [← List.filter_append]
        exact List.filter_eq_self.2 (fun p hp' => by simpa using hn p hp')
      rw [e]
    have hB : ButB w w' r := ⟨hg.os, hg.tape, hg.output, hs, fun i hi => by
      by_cases hl : i < w.heap.size
      · exact hg.block i hl (fun e => hi (by injection e))
      · rw [Array.getElem?_eq_none (by omega), Array.getElem?_eq_none (by omega)]⟩
    refine .inr ⟨a, x, mdel todo a, w', hperm, h3 _ hmem, ha, hrun, ⟨h1.move (hB.2.2.2.2 b (Ne.symm h4.ne)), mdel_keys h2 a, fun p hp' => h3 p (List.mem_filter.1 hp').1, D, _, _, hr', h5, fun c hc => ?_⟩, hB, hen⟩
    · by_cases e : c = a
      · subst e
        rw [mget_del_same]
        simp [WideAt.sameKey_self (K.isk c)]
      · rw [mget_del_other todo e, ← h6 c hc, Maps.sameKey_ne (fun e' => e (K.inj e'))]
        simp
end

/-! ### at the operation, for the walk -/
section
variable {α β : Type} [DecidableEq α] {P : Program} {k : TypeId} {K : KeyKd P k α} {enc : β → Value} {w : World} {b : Nat} {ps : List (α × β)} {ops : Array Oper} {rest : List Oper} {o : Oper} {a : Act} {Q : Exit → Act → World → Prop}
theorem wpList_put_at (h : MapAt K enc w b ps) (hg : o.guard = none) (m x v : Operand) (t e : TypeId) (hop : o.op = Op.mapUpdate t m x v) (ht : P.underlying t = some (.map k e)) (hl : ps.length < maxLen)
    (hm : a.eval m = .map (some b)) (c : α) (y : β) (hx : a.eval x = K.val c) (hv : a.eval v = enc y) (hc : K.ok c)
    (hK : ∀ w', MapAt K enc w' b (mput ps c y) → ButB w w' b → wpList P ops Q rest (a.put o.dst undef) w') : wpList P ops Q (o :: rest) a w := by
  refine wpList_plain hg fun K' hK' => ?_
  obtain ⟨w', hrun, r1, r2⟩ := h.put ht hl hc y
  unfold Oper.wp
  simp [execOp, hop, hm, hx, hv, hrun, Result.andThen]
  exact hK' _ _ (hK w' r1 r2)
theorem wpList_del_at (h : MapAt K enc w b ps) (hg : o.guard = none) (m x : Operand) (t e : TypeId) (hop : o.op = Op.call { callee := Callee.builtin Builtin.delete, args := #[m, x], argTypes := #[t, k] }) (ht : P.underlying t = some (.map k e))
    (hm : a.eval m = .map (some b)) (c : α) (hx : a.eval x = K.val c) (hc : K.ok c)
    (hK : ∀ w', MapAt K enc w' b (mdel ps c) → ButB w w' b → wpList P ops Q rest (a.put o.dst (.tuple #[])) w') : wpList P ops Q (o :: rest) a w := by
  refine wpList_plain hg fun K' hK' => ?_
  obtain ⟨w', hrun, r1, r2⟩ := h.del ht hc o.type
  unfold Oper.wp
  simp [execOp, hop, resolve, invoke, builtin, hm, hx, hrun, Result.andThen]
  exact hK' _ _ (hK w' r1 r2)
theorem wpList_len_at (h : MapAt K enc w b ps) (hg : o.guard = none) (m : Operand) (t e : TypeId) (hop : o.op = Op.call { callee := Callee.builtin Builtin.len, args := #[m], argTypes := #[t] }) (ht : P.underlying t = some (.map k e))
    (hm : a.eval m = .map (some b)) (hK : wpList P ops Q rest (a.put o.dst (.int .i64 ps.length)) w) : wpList P ops Q (o :: rest) a w := by
  refine wpList_plain hg fun K' hK' => ?_
  unfold Oper.wp
  simp [execOp, hop, resolve, invoke, builtin, hm, h.len ht o.type, Result.andThen]
  exact hK' _ _ hK
theorem wpList_range_at (h : MapAt K enc w b ps) (hg : o.guard = none) (m : Operand) (t e : TypeId) (hop : o.op = Op.range t m) (ht : P.underlying t = some (.map k e))
    (hm : a.eval m = .map (some b)) (hK : ∀ w', RangeAt K enc w' b w.heap.size ps ps → Below w.heap.size w w' → w'.heap.size = w.heap.size + 1 → wpList P ops Q rest (a.put o.dst (.pointer (some ⟨w.heap.size, 0, none⟩))) w') : wpList P ops Q (o :: rest) a w := by
  refine wpList_plain hg fun K' hK' => ?_
  obtain ⟨w', hrun, r1, r2, r3⟩ := h.range ht
  unfold Oper.wp
  simp [execOp, hop, hm, hrun, Result.andThen]
  exact hK' _ _ (hK w' r1 r2 r3)
theorem wpList_next_at {r : Nat} {todo : List (α × β)} (h : RangeAt K enc w b r ps todo) (hg : o.guard = none) (it : Operand) (hop : o.op = Op.next it false) (hit : a.eval it = .pointer (some ⟨r, 0, none⟩))
    (hDone : todo = [] → wpList P ops Q rest (a.put o.dst (.tuple #[.bool false])) w)
    (hMore : ∀ (c : α) (x : β) (todo' : List (α × β)) (w' : World), todo.Perm ((c, x) :: todo') → (c, x) ∈ ps → K.ok c → RangeAt K enc w' b r ps todo' → ButB w w' r → (Instr.entry (.pointer (some ⟨r, 0, none⟩))).run P w' = .ok (.tuple #[K.val c, enc x]) w' → wpList P ops Q rest (a.put o.dst (.tuple #[.bool true, K.val c, enc x])) w') :
    wpList P ops Q (o :: rest) a w := by
  refine wpList_plain hg fun K' hK' => ?_
  rcases h.next o.type with ⟨h0, hrun⟩ | ⟨c, x, todo', w', h1, h2, h3, hrun, h4, h5, h6⟩
  · unfold Oper.wp
    simp [execOp, hop, hit, hrun, Result.andThen]
    exact hK' _ _ (hDone h0)
  · unfold Oper.wp
    simp [execOp, hop, hit, hrun, Result.andThen]
    exact hK' _ _ (hMore c x todo' w' h1 h2 h3 h4 h5 h6)
end
end Go.Proofs.YtipdleiginnjmaaGreatDoor
namespace Go.Proofs.YtipdleiginnjmaaGreatDoor
open Go.RowKit Go.Maps Go.Proofs.YtipdleiginnjmaaGreatDoorW.PrintWords
section
variable {α β : Type} [DecidableEq α] {P : Program} {k : TypeId} {K : KeyKd P k α} {enc : β → Value} {w : World} {b : Nat} {ps : List (α × β)} {ops : Array Oper} {o : Oper} {a : Act} {Q : Exit → Act → World → Prop} {Kc : Act → World → Prop}
theorem put_step (h : MapAt K enc w b ps) (hw : Region.wanted o (yielded ops a.tmps) = true) (m x v : Operand) (t e : TypeId) (hop : o.op = Op.mapUpdate t m x v) (ht : P.underlying t = some (.map k e)) (hl : ps.length < maxLen)
    (hm : a.eval m = .map (some b)) (c : α) (y : β) (hx : a.eval x = K.val c) (hv : a.eval v = enc y) (hc : K.ok c)
    (hK : ∀ w', MapAt K enc w' b (mput ps c y) → ButB w w' b → Kc (a.put o.dst undef) w') : if Region.wanted o (yielded ops a.tmps) = true then Oper.wp P o a w Kc Q else Kc (a.put o.dst undef) w := by
  rw [if_pos hw]
  obtain ⟨w', hrun, r1, r2⟩ := h.put ht hl hc y
  unfold Oper.wp
  simp [execOp, hop, hm, hx, hv, hrun, Result.andThen]
  exact hK w' r1 r2
theorem del_step (h : MapAt K enc w b ps) (hw : Region.wanted o (yielded ops a.tmps) = true) (m x : Operand) (t e : TypeId) (hop : o.op = Op.call { callee := Callee.builtin Builtin.delete, args := #[m, x], argTypes := #[t, k] }) (ht : P.underlying t = some (.map k e))
    (hm : a.eval m = .map (some b)) (c : α) (hx : a.eval x = K.val c) (hc : K.ok c)
    (hK : ∀ w', MapAt K enc w' b (mdel ps c) → ButB w w' b → Kc (a.put o.dst (.tuple #[])) w') : if Region.wanted o (yielded ops a.tmps) = true then Oper.wp P o a w Kc Q else Kc (a.put o.dst undef) w := by
  rw [if_pos hw]
  obtain ⟨w', hrun, r1, r2⟩ := h.del ht hc o.type
  unfold Oper.wp
  simp [execOp, hop, resolve, invoke, builtin, hm, hx, hrun, Result.andThen]
  exact hK w' r1 r2
/-- .. where the walk stands in the middle of the store. -/
theorem upon_put (h : MapAt K enc w b ps) {t e : TypeId} (ht : P.underlying t = some (.map k e)) (hl : ps.length < maxLen) (c : α) (y : β) {key val : Value} (hx : key = K.val c) (hv : val = enc y) (hc : K.ok c)
    (hK : ∀ w', MapAt K enc w' b (mput ps c y) → ButB w w' b → Kc (a.put o.dst undef) w') : Oper.upon P o a Kc Q ((Sem.run P (Instr.mapUpdate t (.map (some b)) key val) w).andThen fun _ w' => .ok Next.skip w') := by
  obtain ⟨w', hrun, r1, r2⟩ := h.put ht hl hc y
  subst hx hv
  rw [hrun]
  exact hK w' r1 r2
end
end Go.Proofs.YtipdleiginnjmaaGreatDoor
namespace Go.Proofs.YtipdleiginnjmaaGreatDoor
open Go.RowKit Go.Proofs.YtipdleiginnjmaaGreatDoorW.PrintWords

def cmpI (a b : Int) : Int := if a < b then -1 else if a > b then 1 else 0
set_option maxHeartbeats 400000 in
theorem cmpInt_any (a b : Int) (w : World) : Calls Tryz.prog 179 #[.int .i64 a, .int .i64 b] w fun e w' => e = .returned (.int .i64 (cmpI a b)) ∧ w = w' := by
  have h1 : (a != a) = false := by simp
  have h2 : (b != b) = false := by simp
  by_cases h : a < b
  · rw [show cmpI a b = -1 from if_pos h]
    go_enter Tryz.func179, Tryz.ntmps179
    go_wp2
    go_ret
    exact ⟨rfl, rfl⟩
  · by_cases h' : b < a
    · rw [show cmpI a b = 1 from (if_neg h).trans (if_pos h')]
      go_enter Tryz.func179, Tryz.ntmps179
      go_wp2
      go_ret
      exact ⟨rfl, rfl⟩
    · rw [show cmpI a b = 0 from (if_neg h).trans (if_neg h')]
      go_enter Tryz.func179, Tryz.ntmps179
      go_wp2
      go_ret
      exact ⟨rfl, rfl⟩
theorem cmpI_lt (a b : Int) : cmpI a b < 0 ↔ a < b := by
  unfold cmpI
  by_cases h : a < b
  · simp [h]
  · by_cases h' : b < a <;> simp [h, h']
end Go.Proofs.YtipdleiginnjmaaGreatDoor
namespace Go.Proofs.YtipdleiginnjmaaGreatDoor
open Go.RowKit Go.Proofs.YtipdleiginnjmaaGreatDoorW.PrintWords

def orI (a b : Int) : Int := if a = 0 then b else a
set_option maxHeartbeats 400000 in
theorem orInt_any (g t : Nat) (a b : Int) (w : World) (hg : w.heap[g]? = some (.cells #[.int .i64 a, .int .i64 b] t (0, 0))) : Calls Tryz.prog 195 #[.slice (some ⟨g, 0, none⟩) 2 2] w fun e w' => e = .returned (.int .i64 (orI a b)) ∧ w = w' := by
  have b0 := blk_cell hg 0
  have b1 := blk_cell hg 1
  simp only [List.getElem?_toArray, List.getElem?_cons_succ, List.getElem?_cons_zero] at b0 b1
  clear hg
  by_cases ha : a = 0
  · subst ha
    rw [show orI 0 b = b from if_pos rfl]
    by_cases hb : b = 0
    · subst hb
      go_enter Tryz.func195, Tryz.ntmps195
      go_wp2_with fail
      refine wp_loop_rounds 3 ?_
      rw [rounds_succ]
      go_wp2
      rw [rounds_succ]
      go_wp2
      rw [rounds_succ]
      go_wp2
      go_ret
      exact ⟨rfl, rfl⟩
    · have hbb : (b != 0) = true := by simp [hb]
      go_enter Tryz.func195, Tryz.ntmps195
      go_wp2_with fail
      refine wp_loop_rounds 3 ?_
      rw [rounds_succ]
      go_wp2
      rw [rounds_succ]
      go_wp2
      go_ret
      exact ⟨rfl, rfl⟩
  · have haa : (a != 0) = true := by simp [ha]
    rw [show orI a b = a from if_neg ha]
    go_enter Tryz.func195, Tryz.ntmps195
    go_wp2_with fail
    refine wp_loop_rounds 3 ?_
    rw [rounds_succ]
    go_wp2
    go_ret
    exact ⟨rfl, rfl⟩
end Go.Proofs.YtipdleiginnjmaaGreatDoor
namespace Go.Proofs.YtipdleiginnjmaaGreatDoor
open Go.RowKit Go.Proofs.YtipdleiginnjmaaGreatDoorW.PrintWords Go.Deep

/-- Whatever the form reads at type t is data of kind d (that meets ok). -/
structure Opens {α : Type} (P : Program) (t : TypeId) (d : Kd α) (ok : α → Prop) : Prop where
  cells : P.cellsOf t = d.sz
  get : ∀ {H : Type} {enc : TypeId × Value → H} {w : World} {held : Bool} {fuel : Nat} {cs : List Value} {x : DataW H × List MemPlace},
    DataW.trod enc P w 0 (fun _ => true) held fuel t cs = some x → ∃ a, d.K w a cs ∧ ok a

theorem opens_int {P : Program} {t : TypeId} {k : IntKind} (ht : P.underlying t = some (.int k)) (hc : P.cellsOf t = 1) : Opens P t (Kd.int k) (fun n => (Lit.int k n).wf = true) :=
  ⟨hc, fun h => by obtain ⟨n, rfl, _, hw⟩ := DataW.trod_int ht h; exact ⟨n, rfl, hw⟩⟩
theorem opens_bool {P : Program} {t : TypeId} (ht : P.underlying t = some .bool) (hc : P.cellsOf t = 1) : Opens P t Kd.bool (fun _ => True) :=
  ⟨hc, fun h => by obtain ⟨n, rfl, _⟩ := DataW.trod_bool ht h; exact ⟨n, rfl, trivial⟩⟩
theorem opens_string {P : Program} {t : TypeId} (ht : P.underlying t = some .string) (hc : P.cellsOf t = 1) : Opens P t Kd.string (fun s => s.size ≤ maxLen) :=
  ⟨hc, fun h => by obtain ⟨n, rfl, _, hs⟩ := DataW.trod_string ht h; exact ⟨n, rfl, hs⟩⟩

theorem opens_slice {α : Type} {P : Program} {t e : TypeId} {d : Kd α} {ok : α → Prop} (ht : P.underlying t = some (.slice e)) (hc : P.cellsOf t = 1) (he : Opens P e d ok) : Opens P t (Kd.slice e d) (fun xs => ∀ x ∈ xs, ok x) := by
  refine ⟨hc, fun {H enc w held fuel cs x} h => ?_⟩
  rcases open_slice ht h with ⟨rfl, _⟩ | ⟨a, len, cap, m, n, D, Pl, rfl, _, hl, hm, hmm, _, hel⟩
  · exact ⟨[], ⟨none, 0, rfl, Nat.le_refl _, Kd.C_nil _ _⟩, by simp⟩
  · have hle : len ≤ m := by rw [hmm]; simpa using hl
    have hex : ∀ i, i < len → ∃ x : α × List Value, d.K w x.1 x.2 ∧ ok x.1 ∧ x.2.length = d.sz ∧ ∀ j u, x.2[j]? = some u → w.cell? (a.add (i * d.sz + j)) = some u := by
      intro i hi
      obtain ⟨cs', h1, h2⟩ := hel i (by omega)
      obtain ⟨b, hK, hok⟩ := he.get h2
      refine ⟨(b, cs'), hK, hok, d.K_len hK, fun j u hu => ?_⟩
      rw [he.cells] at h1
      obtain ⟨_, hlen, hcell⟩ := World.cells?_some h1
      have hj : j < cs'.length := (List.getElem?_eq_some_iff.1 hu).1
      have := hcell j (by omega)
      rw [Deep.add_add] at this
      rw [this]
      exact hu
    by_cases h0 : len = 0
    · subst h0
      exact ⟨[], ⟨some a, cap, rfl, by simp, rfl, by simp, fun h => absurd h (by simp)⟩, by simp⟩
    · obtain ⟨x0, _⟩ := hex 0 (by omega)
      haveI : Inhabited (α × List Value) := ⟨x0⟩
      obtain ⟨f, hf⟩ := choose_lt hex
      have hlen : ((List.range len).map fun i => (f i).1).length = len := by simp
      refine ⟨(List.range len).map fun i => (f i).1, ⟨some a, cap, by rw [hlen], by rw [hlen]; exact hl, ?_⟩, ?_⟩
      · refine ⟨rfl, by rw [hlen]; unfold maxLen at hm; omega, fun _ => ⟨a, rfl, fun j p hj => ?_⟩⟩
        have hjl : j < len := by
          have := (List.getElem?_eq_some_iff.1 hj).1
          rwa [hlen] at this
        have hp : p = (f j).1 := by
          rw [List.getElem?_map, List.getElem?_range hjl] at hj
          simpa using hj.symm
        subst hp
        exact ⟨(f j).2, (hf j hjl).2.2.1, (hf j hjl).1, (hf j hjl).2.2.2⟩
      · intro y hy
        obtain ⟨i, hi, rfl⟩ := List.mem_map.1 hy
        exact (hf i (List.mem_range.1 hi)).2.1

/-- The fields of a struct from an offset on. -/
inductive Fields (P : Program) : {β : Type} → List Field → Nat → Kd β → (β → Prop) → Prop
  | last {α : Type} {f : Field} {off : Nat} {d : Kd α} {ok : α → Prop} (h : Opens P f.type d ok) (ho : f.offset = off) : Fields P [f] off d ok
  | cons {α β : Type} {f : Field} {fs : List Field} {off off' : Nat} {d : Kd α} {ok : α → Prop} {d2 : Kd β} {ok2 : β → Prop} (h : Opens P f.type d ok) (ho : f.offset = off) (h2 : Fields P fs off' d2 ok2) (ho' : off' = off + d.sz) :
      Fields P (f :: fs) off (Kd.pair d d2) (fun x => ok x.1 ∧ ok2 x.2)

theorem Fields.get {P : Program} {β : Type} {fs : List Field} {off : Nat} {d : Kd β} {ok : β → Prop} (h : Fields P fs off d ok) {H : Type} {enc : TypeId × Value → H} {w : World} {held : Bool} {n : Nat} {cs : List Value}
    (hlen : cs.length = off + d.sz)
    (hf : ∀ f, f ∈ fs → ∃ y, DataW.trod enc P w 0 (fun _ => true) held n f.type ((cs.drop f.offset).take (P.cellsOf f.type)) = some y) : ∃ a, d.K w a (cs.drop off) ∧ ok a := by
  induction h with
  | @last α f off d ok h ho =>
    obtain ⟨y, hy⟩ := hf f (by simp)
    obtain ⟨a, hK, hok⟩ := h.get hy
    rw [h.cells, ho, List.take_of_length_le (by rw [List.length_drop]; omega)] at hK
    exact ⟨a, hK, hok⟩
  | @cons α β f fs off off' d ok d2 ok2 h ho h2 ho' ih =>
    obtain ⟨y, hy⟩ := hf f (by simp)
    obtain ⟨a, hK, hok⟩ := h.get hy
    rw [h.cells, ho] at hK
    have hsz : (Kd.pair d d2).sz = d.sz + d2.sz := rfl
    obtain ⟨b, hK2, hok2⟩ := ih (by omega) (fun g hg => hf g (List.mem_cons_of_mem _ hg))
    refine ⟨(a, b), ⟨(cs.drop off).take d.sz, cs.drop off', ?_, hK, hK2⟩, hok, hok2⟩
    rw [ho', ← List.drop_drop, List.take_append_drop]

theorem opens_struct {P : Program} {β : Type} {t : TypeId} {fs : Array Field} {d : Kd β} {ok : β → Prop} (ht : P.underlying t = some (.struct fs)) (hc : P.cellsOf t = d.sz) (h : Fields P fs.toList 0 d ok) : Opens P t d ok := by
  refine ⟨hc, fun {H enc w held fuel cs x} hx => ?_⟩
  obtain ⟨xs, n, _, _, hl, hlen, hf⟩ := DataW.trod_struct ht hx
  refine Fields.get h (cs := cs) (n := n) (enc := enc) (held := held) (by rw [hl, hc]; omega) (fun f hfm => ?_)
  obtain ⟨i, hi, rfl⟩ := List.getElem_of_mem hfm
  have hi' : i < fs.size := by simpa using hi
  have h1 := hf i fs[i] (by simp [hi'])
  have h2 : i < xs.length := by omega
  refine ⟨xs[i], ?_⟩
  rw [List.getElem?_eq_getElem h2] at h1
  simpa using h1

/-- An argument that is a slice. -/
theorem arg_slice {α : Type} {P : Program} {t e : TypeId} {d : Kd α} {ok : α → Prop} (ht : P.underlying t = some (.slice e)) (hc : P.cellsOf t = 1) (he : Opens P e d ok) {H : Type} {enc : TypeId × Value → H} {w : World} {held : Bool} {a : Option Addr} {len cap : Nat} {y : DataW H} {ps : List MemPlace}
    (h : DataW.Trod enc P w 0 (fun _ => true) held t (.slice a len cap) y ps) : ∃ xs : List α, d.C w a len xs ∧ len ≤ cap ∧ ∀ x ∈ xs, ok x := by
  obtain ⟨fuel, hf⟩ := h
  obtain ⟨xs, ⟨A, c, hcs, hle, hC⟩, hok⟩ := (opens_slice ht hc he).get hf
  have hcs' : [Value.slice a len cap] = [.slice A xs.length c] := by simpa [Value.cells] using hcs
  injection hcs' with h1 _
  injection h1 with h1 h2 h3
  subst h1 h2 h3
  exact ⟨xs, hC, hle, hok⟩

end Go.Proofs.YtipdleiginnjmaaGreatDoor
