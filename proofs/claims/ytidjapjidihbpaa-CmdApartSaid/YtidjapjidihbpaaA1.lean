/- Put together: Plain lemmas on rows in memory (kinds 'Kd' of the printed words), blocks that are kept, cuts: no program in them. · Objects in memory, each with the blocks that are its own: a small calculus of separate footprints. No program in it. · Objects made of objects: side by side as one (AStar), one of many (AEx), with a fact (AIf); opened and shut. No program in it. · What came in reads as plain data: from the form's own reading ('trod') to the kinds of the printed words. No program in it. · slices.Clone at one element type, by its contract. · Numbers and texts as bytes: the plain law of what is written. No program in it. · coil.Num, coil.Text, coil.Nums (what is written) by their contracts. · coil.Text (what is written) by its contract; an owned row of bytes, and what it holds. -/
import Derived.Test.YtidjapjidihbpaaProg
import Derived.Test.YtidjapjidihbpaaWKept
import Derived.Lib.AppendZeros
import Derived.Lib.LazyBuf
import Derived.Lib.Hide
import Derived.WalkSpells
import Derived.WalkLawsBesides
import Derived.ProofKit
import Derived.OpenShut
import Derived.ShutString
import Derived.ChangeOld
import Derived.SizedLaws
import Derived.Deep.Slices
set_option linter.unusedVariables false
set_option linter.unusedSimpArgs false
namespace Go.Proofs.Ytidjapjidihbpaa
open Go.RowKit Go.Proofs.YtidjapjidihbpaaW.PrintWords

theorem R_empty {α : Type} (d : Kd α) (e : Nat) (w : World) (base : Nat) (ok : Nat → Prop) (hb : base ≤ w.heap.size) (ho : ok w.heap.size) :
    d.R e (w.alloc (.cells #[] e)) base ok (.slice (some ⟨w.heap.size, 0, none⟩) 0 0) [] := by
  refine ⟨fun k hk => ?_, [], ⟨by simp, .inr ⟨w.heap.size, 0, #[], rfl, hb, heap_alloc_new w _, Nat.le_refl _, by simp [maxLen], by simp, by simp⟩⟩, Reps.none _ _⟩
  have : w.heap.size = k := by simpa [Value.ownBlock] using hk
  exact this ▸ ho

theorem R_room {α : Type} (d : Kd α) (e : Nat) (w : World) (base : Nat) (ok : Nat → Prop) (hb : base ≤ w.heap.size) (ho : ok w.heap.size) (cap : Nat) (cur : Array Value) (hc : cap ≤ maxLen) (hs : cur.size = cap * d.sz) :
    d.R e (w.alloc (.cells cur e)) base ok (.slice (some ⟨w.heap.size, 0, none⟩) 0 cap) [] := by
  refine ⟨fun k hk => ?_, [], ⟨by simp, .inr ⟨w.heap.size, cap, cur, rfl, hb, heap_alloc_new w _, Nat.zero_le _, hc, hs, by simp⟩⟩, Reps.none _ _⟩
  have : w.heap.size = k := by simpa [Value.ownBlock] using hk
  exact this ▸ ho

/-- One element of a row that is read. -/
theorem C_nth {α : Type} {d : Kd α} {w : World} {A : Option Addr} {n : Nat} {xs : List α} (h : d.C w A n xs) (k : Nat) (hk : k < n) :
    ∃ ad x c, A = some ad ∧ xs[k]? = some x ∧ c.length = d.sz ∧ d.K w x c ∧ ∀ j u, c[j]? = some u → w.cell? (ad.add (k * d.sz + j)) = some u := by
  have hl : k < xs.length := by rw [Kd.C_len h]; exact hk
  obtain ⟨ad, c, hA, h1, h2, h3⟩ := Kd.C_get h xs[k] k (by omega) (by omega)
  simp only [Int.toNat_natCast] at h2 h3
  refine ⟨ad, xs[k], c, hA, by simp [hl], h1, ?_, h3⟩
  simpa [List.getD, hl] using h2
theorem C_nth_slice {α : Type} {d : Kd α} {e : Nat} {w : World} {A : Option Addr} {n : Nat} {xs : List (List α)} (h : (Kd.slice e d).C w A n xs) (k : Nat) (hk : k < n) :
    ∃ ad x A1 c1, A = some ad ∧ xs[k]? = some x ∧ w.cell? (ad.add k) = some (.slice A1 x.length c1) ∧ x.length ≤ c1 ∧ d.C w A1 x.length x := by
  obtain ⟨ad, x, c, hA, hx, _, ⟨A1, c1, rfl, hl, hC⟩, h3⟩ := C_nth h k hk
  refine ⟨ad, x, A1, c1, hA, hx, ?_, hl, hC⟩
  have := h3 0 _ rfl
  simpa [Kd.slice] using this
theorem C_nth_scalar {α : Type} {enc : α → Value} {h1 : ∀ x, (enc x).oneCell' = true} {w : World} {A : Option Addr} {n : Nat} {xs : List α} (h : (Kd.scalar enc h1).C w A n xs) (k : Nat) (hk : k < n) :
    ∃ ad x, A = some ad ∧ xs[k]? = some x ∧ w.cell? (ad.add k) = some (enc x) := by
  obtain ⟨ad, x, c, hA, hx, _, hc, h3⟩ := C_nth h k hk
  have hc' : c = [enc x] := hc
  subst hc'
  refine ⟨ad, x, hA, hx, ?_⟩
  have := h3 0 _ rfl
  simpa [Kd.scalar] using this

/-- How many elements the first k rows have. -/
def flatLen {α : Type} (xss : List (List α)) (k : Nat) : Nat := (xss.take k).flatten.length
theorem flatLen_succ {α : Type} {xss : List (List α)} {k : Nat} {x : List α} (h : xss[k]? = some x) : flatLen xss (k + 1) = flatLen xss k + x.length := by
  unfold flatLen
  rw [List.take_add_one, h]
  simp
theorem flatLen_le {α : Type} (xss : List (List α)) (k : Nat) : flatLen xss k ≤ xss.flatten.length := by
  unfold flatLen
  have h := congrArg (fun l : List (List α) => l.flatten.length) (List.take_append_drop k xss)
  simp only [List.flatten_append, List.length_append] at h
  omega
theorem flatten_succ {α : Type} {xss : List (List α)} {k : Nat} {x : List α} (h : xss[k]? = some x) : (xss.take (k + 1)).flatten = (xss.take k).flatten ++ x := by
  rw [List.take_add_one, h]
  simp

/-- Two rows, as 'f(a, b)' lays them. -/
theorem C_two {α : Type} {d : Kd α} {e g t : Nat} {w : World} {A1 A2 : Option Addr} {n1 n2 c1 c2 : Nat} {xs ys : List α} (hg : w.heap[g]? = some (.cells #[.slice A1 n1 c1, .slice A2 n2 c2] t (0, 0)))
    (h1 : d.C w A1 n1 xs) (hc1 : n1 ≤ c1) (h2 : d.C w A2 n2 ys) (hc2 : n2 ≤ c2) : (Kd.slice e d).C w (some ⟨g, 0, none⟩) 2 [xs, ys] := by
  have e1 := Kd.C_len h1
  have e2 := Kd.C_len h2
  subst e1
  subst e2
  refine ⟨rfl, by omega, fun _ => ⟨_, rfl, fun j x hj => ?_⟩⟩
  match j, hj with
  | 0, hj =>
    obtain rfl := Option.some.inj hj
    refine ⟨_, rfl, ⟨A1, c1, rfl, hc1, h1⟩, fun i u hu => ?_⟩
    match i, hu with
    | 0, hu =>
      obtain rfl := Option.some.inj hu
      rw [add_plain, blk_cell hg]; simp
    | i + 1, hu => simp at hu
  | 1, hj =>
    obtain rfl := Option.some.inj hj
    refine ⟨_, rfl, ⟨A2, c2, rfl, hc2, h2⟩, fun i u hu => ?_⟩
    match i, hu with
    | 0, hu =>
      obtain rfl := Option.some.inj hu
      rw [add_plain, blk_cell hg]; simp [Kd.slice]
    | i + 1, hu => simp at hu
  | j + 2, hj => simp at hj

theorem R_fresh {α : Type} {d : Kd α} {e : Nat} {w : World} {B : Nat} {ok : Nat → Prop} {v : Value} {xs : List α} (h : d.R e w B ok v xs) : d.R e w 0 (fun k => B ≤ k ∧ k < w.heap.size) v xs :=
  Kd.R_lower (Kd.R_mono (Kd.R_bound h) (fun _ hk => ⟨hk.2.1, hk.2.2.1⟩)) (Nat.zero_le _)
theorem below_undrew {w w1 : World} (h : Below w.drew.heap.size w.drew w1) : Below w.heap.size w w1 := ⟨h.os, h.tape, h.output, h.size, h.block⟩

/-- All but the blocks S (of those that were there) is as it was. -/
structure Keep (S : Nat → Prop) (w w' : World) : Prop where
  os : w'.os = w.os
  tape : w'.tape = w.tape
  output : w'.output = w.output
  size : w.heap.size ≤ w'.heap.size
  block : ∀ k, k < w.heap.size → ¬ S k → w'.heap[k]? = w.heap[k]?
theorem Keep.refl (S : Nat → Prop) (w : World) : Keep S w w := ⟨rfl, rfl, rfl, Nat.le_refl _, fun _ _ _ => rfl⟩
theorem Keep.of_below {w w' : World} (h : Below w.heap.size w w') (S : Nat → Prop) : Keep S w w' := ⟨h.os, h.tape, h.output, h.size, fun k hk _ => h.block k hk⟩
theorem Keep.mono {S S' : Nat → Prop} {w w' : World} (h : Keep S w w') (hs : ∀ k, k < w.heap.size → S k → S' k) : Keep S' w w' := ⟨h.os, h.tape, h.output, h.size, fun k hk hn => h.block k hk (fun hS => hn (hs k hk hS))⟩
theorem Keep.trans {S : Nat → Prop} {w w1 w2 : World} (h : Keep S w w1) (h2 : Keep (fun k => S k ∨ w.heap.size ≤ k) w1 w2) : Keep S w w2 :=
  ⟨h2.os.trans h.os, h2.tape.trans h.tape, h2.output.trans h.output, Nat.le_trans h.size h2.size, fun k hk hn => (h2.block k (Nat.lt_of_lt_of_le hk h.size) (fun hS => by rcases hS with hS | hS; exact hn hS; omega)).trans (h.block k hk hn)⟩
theorem Keep.below {S : Nat → Prop} {B : Nat} {w0 w w' : World} (h : Below B w0 w) (hk : Keep S w w') (hB : B ≤ w.heap.size) (hs : ∀ k, k < w.heap.size → S k → B ≤ k) : Below B w0 w' :=
  ⟨hk.os.trans h.os, hk.tape.trans h.tape, hk.output.trans h.output, Nat.le_trans h.size hk.size, fun k hlt => (hk.block k (Nat.lt_of_lt_of_le hlt hB) (fun hS => by have := hs k (Nat.lt_of_lt_of_le hlt hB) hS; omega)).trans (h.block k hlt)⟩
theorem Keep.setCell {S : Nat → Prop} {w w' : World} (h : Keep S w w') {p : Addr} (hp : S p.block ∨ w.heap.size ≤ p.block) (u : Value) : Keep S w (w'.setCell p u) :=
  ⟨h.os, h.tape, h.output, Nat.le_trans h.size (by simp [World.setCell]), fun k hk hn => (Below.heap_setCell w' p u k (fun e => by subst e; rcases hp with hp | hp; exact hn hp; omega)).trans (h.block k hk hn)⟩
theorem Keep.undrew {S : Nat → Prop} {w w' : World} (h : Keep S w.drew w') : Keep S w w' := ⟨h.os, h.tape, h.output, h.size, h.block⟩

theorem run_take {P : Program} (t e : TypeId) {i : TypeInfo} (ht : P.underlying t = some (.slice e)) (hi : P.info? e = some i) (A : Option Addr) (n c m : Nat) (hm : m ≤ n) (hc : n ≤ c) (W : World) :
    (Instr.slice t (.slice A n c) none (some (.int .i64 (m : Int))) none).run P W = .ok (.slice A m c) W := by
  have hel : P.elem t = e := by simp [Program.elem, ht]
  have hu : P.underlying t = some (.slice (P.elem t)) := by rw [hel]; exact ht
  have ha : (A.map fun x => x.add 0) = A := by cases A <;> simp [Addr.add]
  rw [run_slice_h W t A n c hu .i64 (m : Int) (by omega) (by omega), hel]
  simp [sizeOf, typeInfo, hi, sliced, Result.andThen, ha]
theorem run_drop {P : Program} (t e : TypeId) {i : TypeInfo} (ht : P.underlying t = some (.slice e)) (hi : P.info? e = some i) (size : Nat) (hsz : i.size = size) (A : Option Addr) (n c m : Nat) (hm : m ≤ n) (W : World) :
    (Instr.slice t (.slice A n c) (some (.int .i64 (m : Int))) none none).run P W = .ok (.slice (if c = m then A else A.map (·.add (m * size))) (n - m) (c - m)) W := by
  have hel : P.elem t = e := by simp [Program.elem, ht]
  have hu : P.underlying t = some (.slice (P.elem t)) := by rw [hel]; exact ht
  rw [run_slice_l W t A n c hu .i64 (m : Int) (by omega) (by omega), hel]
  simp [sizeOf, typeInfo, hi, hsz, sliced, Result.andThen]
/-- The row up to place m: the value of the cut, and that it reads so. -/
theorem take_row {α : Type} {d : Kd α} {P : Program} (t e : TypeId) {i : TypeInfo} (ht : P.underlying t = some (.slice e)) (hi : P.info? e = some i) {A : Option Addr} {n c : Nat} (m : Nat) {xs : List α} (hm : m ≤ n) (hc : n ≤ c) {w : World} (hC : d.C w A n xs) :
    (∀ W : World, (Instr.slice t (.slice A n c) none (some (.int .i64 (m : Int))) none).run P W = .ok (.slice A m c) W) ∧ d.C w A m (xs.take m) := by
  have hn := Kd.C_len hC
  subst hn
  refine ⟨fun W => run_take t e ht hi A _ c m hm hc W, ?_⟩
  have := Kd.C_take hC hm
  rwa [List.length_take, Nat.min_eq_left hm] at this
/-- The row from place m on: the value of the cut, and that it reads so. -/
theorem drop_row {α : Type} {d : Kd α} {P : Program} (t e : TypeId) {i : TypeInfo} (ht : P.underlying t = some (.slice e)) (hi : P.info? e = some i) (hsz : i.size = d.sz) (A : Option Addr) (c m : Nat) (xs : List α) (hm : m ≤ xs.length) (hc : xs.length ≤ c) {w : World} (hC : d.C w A xs.length xs) :
    ∃ A' : Option Addr, (∀ W : World, (Instr.slice t (.slice A xs.length c) (some (.int .i64 (m : Int))) none none).run P W = .ok (.slice A' (xs.length - m) (c - m)) W) ∧ d.C w A' (xs.length - m) (xs.drop m) := by
  refine ⟨_, fun W => run_drop t e ht hi d.sz hsz A xs.length c m hm W, ?_⟩
  have := Kd.C_drop hC hm hc
  rwa [List.length_drop] at this

/-- A row of scalars that is a block's cells. -/
theorem C_block {α : Type} {enc : α → Value} {h1 : ∀ x, (enc x).oneCell' = true} {w : World} {g t : Nat} {cs : Array Value} (hg : w.heap[g]? = some (.cells cs t (0, 0))) (xs : List α) (hcs : cs.toList = xs.map enc) (hm : xs.length ≤ 9223372036854775807) :
    (Kd.scalar enc h1).C w (some ⟨g, 0, none⟩) xs.length xs := by
  refine ⟨rfl, hm, fun _ => ⟨_, rfl, fun j x hj => ⟨[enc x], rfl, rfl, fun i u hu => ?_⟩⟩⟩
  match i, hu with
  | 0, hu =>
    obtain rfl := Option.some.inj hu
    rw [add_plain, blk_cell hg, ← Array.getElem?_toList, hcs, List.getElem?_map, Nat.add_zero]
    simp [Kd.scalar, hj]
  | i + 1, hu => simp at hu

theorem R_empty_at {α : Type} {d : Kd α} {e g : Nat} {w : World} (hg : w.heap[g]? = some (.cells #[] e (0, 0))) : d.R e w 0 (fun _ => True) (.slice (some ⟨g, 0, none⟩) 0 0) [] :=
  ⟨fun _ _ => trivial, [], ⟨by simp, .inr ⟨g, 0, #[], rfl, Nat.zero_le _, hg, Nat.le_refl _, by simp [maxLen], by simp, by simp⟩⟩, Reps.none _ _⟩
/-- Two appends onto one row of the call's own leave the blocks from lo to hi alone. -/
theorem two_appends_keep {w6 W w7 w8 : World} {lo hi g : Nat} {v1 : Value} (hW : ∀ k, lo ≤ k → k < hi → W.heap[k]? = w6.heap[k]?) (hsz : hi ≤ W.heap.size) (hg1 : W.grownBy w7 (some g)) (hne : g < lo ∨ hi ≤ g)
    (hat : v1.ownBlock = some g ∨ ∃ b, v1.ownBlock = some b ∧ W.heap.size ≤ b) (hg2 : w7.grownBy w8 v1.ownBlock) : ∀ k, lo ≤ k → k < hi → w8.heap[k]? = w6.heap[k]? := by
  intro k h1 h2
  have hk : some k ≠ v1.ownBlock := by
    rcases hat with h | ⟨b, h, hb⟩ <;> rw [h] <;> intro he <;> injection he with he <;> omega
  exact (hg2.block k (Nat.lt_of_lt_of_le (Nat.lt_of_lt_of_le h2 hsz) hg1.size) hk).trans ((hg1.block k (Nat.lt_of_lt_of_le h2 hsz) (by intro he; injection he with he; omega)).trans (hW k h1 h2))
theorem two_appends_below {w W w7 w8 : World} {g : Nat} {v1 : Value} (hW : Below w.heap.size w W) (hg1 : W.grownBy w7 (some g)) (hne : w.heap.size ≤ g)
    (hat : v1.ownBlock = some g ∨ ∃ b, v1.ownBlock = some b ∧ W.heap.size ≤ b) (hg2 : w7.grownBy w8 v1.ownBlock) : Below w.heap.size w w8 := by
  have h1 : Below w.heap.size w w7 := hW.grown hg1 hW.size (fun k hk => by injection hk with hk; omega)
  exact h1.grown hg2 h1.size (fun k hk => by have := hW.size; rcases hat with h | ⟨b, h, hb⟩ <;> rw [h] at hk <;> injection hk with hk <;> omega)

/-- The slice (A, n) lies at the head of a block from base on whose first n cells are ints. -/
def IntsBlock (w : World) (base e : Nat) (A : Option Addr) (n : Nat) : Prop :=
  0 < n → ∃ g cells, A = some ⟨g, 0, none⟩ ∧ base ≤ g ∧ w.heap[g]? = some (.cells cells e (0, 0)) ∧ ∀ i, i < n → ∃ z, cells[i]? = some (.int .i64 z)
theorem intsBlock_of_R {w : World} {base e n c : Nat} {A : Option Addr} {ok : Nat → Prop} {xs : List Int} (h : (Kd.int .i64).R e w base ok (.slice A n c) xs) : IntsBlock w base e A n := by
  intro hn
  have h2 := Kd.R_reads' h
  obtain ⟨inner, ho⟩ := Kd.R_own h
  rcases ho.2 with ⟨h3, _⟩ | ⟨g, cap, cur, h3, hb, hg, _⟩
  · injection h3 with h3 h4 h5
    omega
  · injection h3 with h3 h4 h5
    subst h3
    refine ⟨g, cur, rfl, hb, hg, fun i hi => ?_⟩
    obtain ⟨ad, x, h6, _, h7⟩ := C_nth_scalar h2.2.2 i (by have := h2.1; omega)
    obtain rfl := Option.some.inj h6
    rw [add_plain, blk_cell hg] at h7
    exact ⟨x, h7⟩
theorem IntsBlock.set {w : World} {base e n g j : Nat} {cells : Array Value} (hg : w.heap[g]? = some (.cells cells e (0, 0))) (hb : base ≤ g) (hz : ∀ i, i < n → ∃ z, cells[i]? = some (.int .i64 z)) (x : Int) :
    IntsBlock (w.setCell ⟨g, j, none⟩ (.int .i64 x)) base e (some ⟨g, 0, none⟩) n := by
  intro _
  refine ⟨g, _, rfl, hb, blk_set hg j _, fun i hi => ?_⟩
  obtain ⟨z, hz⟩ := hz i hi
  have hi' := (Array.getElem?_eq_some_iff.1 hz).1
  by_cases hij : j = i
  · subst hij
    exact ⟨x, by simp [hi']⟩
  · exact ⟨z, by simp [hij, hz]⟩

end Go.Proofs.Ytidjapjidihbpaa
namespace Go.Proofs.Ytidjapjidihbpaa
open Go.RowKit Go.Proofs.YtidjapjidihbpaaW.PrintWords

/-- Something that lies in the blocks S of a world: it stays while these stay. -/
structure Asn where make ::
  pred : World → (Nat → Prop) → Prop
  mono : ∀ {w : World} {S S' : Nat → Prop}, pred w S → (∀ k, S k → k < w.heap.size → S' k) → pred w S'
  move : ∀ {w w' : World} {S : Nat → Prop}, pred w S → (∀ k, S k → k < w.heap.size → w'.heap[k]? = w.heap[k]?) → pred w' S

/-- Side by side, in blocks of S. -/
def Star : List Asn → World → (Nat → Prop) → Prop
  | [], _, _ => True
  | P :: Ps, w, S => ∃ S1 : Nat → Prop, P.pred w S1 ∧ (∀ k, S1 k → S k ∧ k < w.heap.size) ∧ Star Ps w (fun k => S k ∧ ¬ S1 k)

theorem Star.mono : ∀ {Ps : List Asn} {w : World} {S S' : Nat → Prop}, Star Ps w S → (∀ k, S k → k < w.heap.size → S' k) → Star Ps w S'
  | [], _, _, _, _, _ => trivial
  | _ :: _, _, _, _, ⟨S1, h1, h2, h3⟩, hm => ⟨S1, h1, fun k hk => ⟨hm k (h2 k hk).1 (h2 k hk).2, (h2 k hk).2⟩, Star.mono h3 (fun k hk hl => ⟨hm k hk.1 hl, hk.2⟩)⟩
theorem Star.move : ∀ {Ps : List Asn} {w w' : World} {S : Nat → Prop}, Star Ps w S → (∀ k, S k → k < w.heap.size → w'.heap[k]? = w.heap[k]?) → w.heap.size ≤ w'.heap.size → Star Ps w' S
  | [], _, _, _, _, _, _ => trivial
  | P :: _, _, _, _, ⟨S1, h1, h2, h3⟩, hm, hz => ⟨S1, P.move h1 (fun k hk hl => hm k (h2 k hk).1 hl), fun k hk => ⟨(h2 k hk).1, Nat.lt_of_lt_of_le (h2 k hk).2 hz⟩, Star.move h3 (fun k hk hl => hm k hk.1 hl) hz⟩
theorem Star.below {Ps : List Asn} {w w' : World} {S : Nat → Prop} (h : Star Ps w S) (hB : Below w.heap.size w w') : Star Ps w' S := h.move (fun k _ hl => hB.block k hl) hB.size
theorem Star.kept {Ps : List Asn} {w w' : World} {S T : Nat → Prop} (h : Star Ps w S) (hK : Keep T w w') (hd : ∀ k, S k → k < w.heap.size → ¬ T k) : Star Ps w' S := h.move (fun k hk hl => hK.block k hl (hd k hk hl)) hK.size
theorem Star.one {P : Asn} {w : World} {S : Nat → Prop} (h : P.pred w S) : Star [P] w S := ⟨fun k => S k ∧ k < w.heap.size, P.mono h (fun _ hk hl => ⟨hk, hl⟩), fun _ hk => hk, trivial⟩
theorem Star.append : ∀ {Ps Qs : List Asn} {w : World} {S T : Nat → Prop}, Star Ps w S → Star Qs w T → (∀ k, S k → T k → False) → Star (Ps ++ Qs) w (fun k => S k ∨ T k)
  | [], _, _, _, _, _, h2, _ => Star.mono h2 (fun _ hk _ => .inr hk)
  | P :: Ps, Qs, w, S, T, ⟨S1, h1, h2, h3⟩, h4, hd => by
    refine ⟨S1, h1, fun k hk => ⟨.inl (h2 k hk).1, (h2 k hk).2⟩, ?_⟩
    refine Star.mono (Star.append h3 h4 (fun k hk ht => hd k hk.1 ht)) (fun k hk _ => ?_)
    rcases hk with hk | hk
    · exact ⟨.inl hk.1, hk.2⟩
    · exact ⟨.inr hk, fun h => hd k (h2 k h).1 hk⟩
theorem Star.cons {P : Asn} {Ps : List Asn} {w : World} {S T : Nat → Prop} (h1 : P.pred w S) (h2 : Star Ps w T) (hd : ∀ k, S k → T k → False) : Star (P :: Ps) w (fun k => S k ∨ T k) := Star.append (Star.one h1) h2 hd
theorem Star.head {P : Asn} {Ps : List Asn} {w : World} {S : Nat → Prop} (h : Star (P :: Ps) w S) : P.pred w S := by
  obtain ⟨S1, h1, h2, _⟩ := h
  exact P.mono h1 (fun k hk _ => (h2 k hk).1)
theorem Star.tail {P : Asn} {Ps : List Asn} {w : World} {S : Nat → Prop} (h : Star (P :: Ps) w S) : Star Ps w S := by
  obtain ⟨S1, _, _, h3⟩ := h
  exact h3.mono (fun k hk _ => hk.1)
theorem Star.swap {P Q : Asn} {Ps : List Asn} {w : World} {S : Nat → Prop} (h : Star (P :: Q :: Ps) w S) : Star (Q :: P :: Ps) w S := by
  obtain ⟨S1, h1, h2, S2, h3, h4, h5⟩ := h
  exact ⟨S2, h3, fun k hk => ⟨(h4 k hk).1.1, (h4 k hk).2⟩, S1, h1, fun k hk => ⟨⟨(h2 k hk).1, fun e => (h4 k e).1.2 hk⟩, (h2 k hk).2⟩, h5.mono (fun k hk _ => ⟨⟨hk.1.1, hk.2⟩, hk.1.2⟩)⟩
theorem Star.perm {Ps Qs : List Asn} (hp : Ps.Perm Qs) : ∀ {w : World} {S : Nat → Prop}, Star Ps w S → Star Qs w S := by
  induction hp with
  | nil => exact fun h => h
  | cons P _ ih => rintro w S ⟨S1, h1, h2, h3⟩; exact ⟨S1, h1, h2, ih h3⟩
  | swap P Q Ps => exact fun h => h.swap
  | trans _ _ ih1 ih2 => exact fun h => ih2 (ih1 h)
theorem Star.get {P : Asn} : ∀ {Ps : List Asn} {w : World} {S : Nat → Prop}, Star Ps w S → P ∈ Ps → P.pred w S
  | Q :: Ps, w, S, h, hm => by
    rcases List.mem_cons.1 hm with rfl | hm
    · exact h.head
    · exact h.tail.get hm
/-- The first one is used up by a call that keeps all but its blocks; what is left of it comes in its place. -/
theorem Star.use {P : Asn} {Ps : List Asn} {w : World} {S : Nat → Prop} (h : Star (P :: Ps) w S) :
    ∃ S1 : Nat → Prop, P.pred w S1 ∧ (∀ k, S1 k → S k ∧ k < w.heap.size) ∧ ∀ (w' : World) (Qs : List Asn), Keep S1 w w' → Star Qs w' (fun k => S1 k ∨ w.heap.size ≤ k) → Star (Qs ++ Ps) w' (fun k => S k ∨ w.heap.size ≤ k) := by
  obtain ⟨S1, h1, h2, h3⟩ := h
  refine ⟨S1, h1, h2, fun w' Qs hK hQ => ?_⟩
  have h4 := (h3.mono (S' := fun k => (S k ∧ ¬ S1 k) ∧ k < w.heap.size) (fun k hk hl => ⟨hk, hl⟩)).kept hK (fun k hk _ => hk.1.2)
  refine (Star.append hQ h4 (fun k hk ht => ?_)).mono (fun k hk _ => ?_)
  · rcases hk with hk | hk
    · exact ht.1.2 hk
    · have := ht.2; omega
  · rcases hk with (hk | hk) | hk
    · exact .inl (h2 k hk).1
    · exact .inr hk
    · exact .inl hk.1.1

/-- Since w0 these have come; what was there is as it was. -/
def Hp (w0 w : World) (Ps : List Asn) : Prop := Below w0.heap.size w0 w ∧ Star Ps w (fun k => w0.heap.size ≤ k)
section
variable {w0 w w' : World} {P Q : Asn} {Ps Qs : List Asn}
theorem Hp.nil (w : World) : Hp w w [] := ⟨Below.refl _ _, trivial⟩
theorem Hp.of (h : Below w0.heap.size w0 w) : Hp w0 w [] := ⟨h, trivial⟩
theorem Hp.belowW (h : Hp w0 w Ps) : Below w0.heap.size w0 w := h.1
theorem Hp.below (h : Hp w0 w Ps) (hB : Below w.heap.size w w') : Hp w0 w' Ps := ⟨h.1.trans (hB.mono h.1.size), h.2.below hB⟩
theorem Hp.get (h : Hp w0 w Ps) (hm : P ∈ Ps) : P.pred w (fun k => w0.heap.size ≤ k) := h.2.get hm
theorem Hp.head (h : Hp w0 w (P :: Ps)) : P.pred w (fun k => w0.heap.size ≤ k) := h.2.head
theorem Hp.tail (h : Hp w0 w (P :: Ps)) : Hp w0 w Ps := ⟨h.1, h.2.tail⟩
theorem Hp.swap (h : Hp w0 w (P :: Q :: Ps)) : Hp w0 w (Q :: P :: Ps) := ⟨h.1, h.2.swap⟩
theorem Hp.perm (h : Hp w0 w Ps) (hp : Ps.Perm Qs) : Hp w0 w Qs := ⟨h.1, h.2.perm hp⟩
theorem Hp.swap2 {R : Asn} (h : Hp w0 w (P :: Q :: R :: Ps)) : Hp w0 w (P :: R :: Q :: Ps) := h.perm ((List.Perm.swap R Q Ps).cons P)
theorem Hp.up2 {R : Asn} (h : Hp w0 w (P :: Q :: R :: Ps)) : Hp w0 w (R :: P :: Q :: Ps) := h.swap2.swap
theorem Hp.up3 {R T : Asn} (h : Hp w0 w (P :: Q :: R :: T :: Ps)) : Hp w0 w (T :: P :: Q :: R :: Ps) := (h.perm (((List.Perm.swap T R Ps).cons Q).cons P)).up2
theorem Hp.down2 {R : Asn} (h : Hp w0 w (P :: Q :: R :: Ps)) : Hp w0 w (Q :: R :: P :: Ps) := h.swap.swap2
/-- A new one, behind a call that changes nothing. -/
theorem Hp.fresh (h : Hp w0 w Ps) (hB : Below w.heap.size w w') (hQ : Q.pred w' (fun k => w.heap.size ≤ k)) : Hp w0 w' (Q :: Ps) := by
  have hz := h.1.size
  refine ⟨h.1.trans (hB.mono hz), ?_⟩
  have h2 := (h.2.mono (S' := fun k => w0.heap.size ≤ k ∧ k < w.heap.size) (fun k hk hl => ⟨hk, hl⟩)).below hB
  exact (Star.cons hQ h2 (fun k h1 h2 => by omega)).mono (fun k hk _ => by omega)
/-- The first one is used up; what is left of it comes in its place. -/
theorem Hp.use (h : Hp w0 w (P :: Ps)) : ∃ S1 : Nat → Prop, P.pred w S1 ∧ (∀ k, S1 k → w0.heap.size ≤ k ∧ k < w.heap.size) ∧ ∀ (w' : World) (Qs : List Asn), Keep S1 w w' → Star Qs w' (fun k => S1 k ∨ w.heap.size ≤ k) → Hp w0 w' (Qs ++ Ps) := by
  obtain ⟨S1, h1, h2, h3⟩ := h.2.use
  refine ⟨S1, h1, h2, fun w' Qs hK hQ => ⟨hK.below h.1 h.1.size (fun k _ hk => (h2 k hk).1), (h3 w' Qs hK hQ).mono (fun k hk _ => ?_)⟩⟩
  have := h.1.size
  rcases hk with hk | hk <;> omega
theorem Hp.use1 (h : Hp w0 w (P :: Ps)) : ∃ S1 : Nat → Prop, P.pred w S1 ∧ ∀ (w' : World) (Q : Asn), Keep S1 w w' → Q.pred w' (fun k => S1 k ∨ w.heap.size ≤ k) → Hp w0 w' (Q :: Ps) := by
  obtain ⟨S1, h1, _, h3⟩ := h.use
  exact ⟨S1, h1, fun w' Q hK hQ => h3 w' [Q] hK (Star.one hQ)⟩
end

/-- A block that holds o. -/
def ABlk (g : Nat) (o : Obj) : Asn where
  pred w S := S g ∧ w.heap[g]? = some o
  mono h hm := ⟨hm g h.1 (Array.getElem?_eq_some_iff.1 h.2).1, h.2⟩
  move h hm := ⟨h.1, (hm g h.1 (Array.getElem?_eq_some_iff.1 h.2).1).trans h.2⟩
theorem Hp.alloc {w0 w : World} {Ps : List Asn} (h : Hp w0 w Ps) (o : Obj) : Hp w0 (w.alloc o) (ABlk w.heap.size o :: Ps) := h.fresh (below_alloc (Below.refl _ _) _) ⟨Nat.le_refl _, heap_alloc_new w o⟩
theorem Hp.blk {w0 w : World} {Ps : List Asn} {g : Nat} {o : Obj} (h : Hp w0 w Ps) (hm : ABlk g o ∈ Ps) : w.heap[g]? = some o := (h.get hm).2
theorem Hp.blk0 {w0 w : World} {Ps : List Asn} {g : Nat} {o : Obj} (h : Hp w0 w (ABlk g o :: Ps)) : w.heap[g]? = some o := h.blk (List.mem_cons_self ..)
theorem Hp.blk1 {w0 w : World} {P : Asn} {Ps : List Asn} {g : Nat} {o : Obj} (h : Hp w0 w (P :: ABlk g o :: Ps)) : w.heap[g]? = some o := h.tail.blk0
theorem Hp.blk2 {w0 w : World} {P Q : Asn} {Ps : List Asn} {g : Nat} {o : Obj} (h : Hp w0 w (P :: Q :: ABlk g o :: Ps)) : w.heap[g]? = some o := h.tail.blk1
theorem Hp.blk3 {w0 w : World} {P Q R : Asn} {Ps : List Asn} {g : Nat} {o : Obj} (h : Hp w0 w (P :: Q :: R :: ABlk g o :: Ps)) : w.heap[g]? = some o := h.tail.blk2
theorem Hp.forget {w0 w : World} {Ps : List Asn} (h : Hp w0 w Ps) : Hp w0 w [] := ⟨h.1, trivial⟩
theorem Star.only1 {w : World} {S : Nat → Prop} {P : Asn} {Ps : List Asn} (h : Star (P :: Ps) w S) : Star [P] w S := by
  obtain ⟨S1, h1, h2, _⟩ := h
  exact ⟨S1, h1, h2, trivial⟩
theorem Hp.only1 {w0 w : World} {P : Asn} {Ps : List Asn} (h : Hp w0 w (P :: Ps)) : Hp w0 w [P] := ⟨h.1, h.2.only1⟩
theorem Hp.only2 {w0 w : World} {P Q : Asn} {Ps : List Asn} (h : Hp w0 w (P :: Q :: Ps)) : Hp w0 w [P, Q] := by
  obtain ⟨h1, S1, h2, h3, h4⟩ := h
  exact ⟨h1, S1, h2, h3, h4.only1⟩
theorem Hp.drop1 {w0 w : World} {P Q : Asn} {Ps : List Asn} (h : Hp w0 w (P :: Q :: Ps)) : Hp w0 w (P :: Ps) := h.swap.tail
theorem Hp.drop2 {w0 w : World} {P Q R : Asn} {Ps : List Asn} (h : Hp w0 w (P :: Q :: R :: Ps)) : Hp w0 w (P :: Q :: Ps) := h.up2.tail
/-- A row of the call's own. -/
def ARow {α : Type} (d : Kd α) (e : Nat) (v : Value) (xs : List α) : Asn where
  pred w S := d.R e w 0 S v xs
  mono h hm := Kd.R_mono (Kd.R_bound h) (fun k hk => hm k hk.1 hk.2.2.1)
  move h hm := Kd.R_step h hm
theorem Hp.row {α : Type} {d : Kd α} {e : Nat} {w0 w w' : World} {Ps : List Asn} {ok : Nat → Prop} {v : Value} {xs : List α} (h : Hp w0 w Ps) (hB : Below w.heap.size w w') (hR : d.R e w' w.heap.size ok v xs) : Hp w0 w' (ARow d e v xs :: Ps) :=
  h.fresh hB (Kd.R_lower (Kd.R_mono (Kd.R_bound hR) (fun _ hk => hk.2.1)) (Nat.zero_le _))
/-- A row of the call's own, ahead of an append and behind it. -/
theorem Hp.appended {α : Type} {d : Kd α} {e : Nat} {w0 W : World} {Ps : List Asn} {v : Value} {xs : List α} (h : Hp w0 W (ARow d e v xs :: Ps)) :
    ∃ ok : Nat → Prop, d.R e W 0 ok v xs ∧ (∀ k, W.heap.size ≤ k → ok k) ∧ ∀ (v1 : Value) (w1 : World) (ys : List α), d.R e w1 0 ok v1 ys → W.grownBy w1 v.ownBlock → Hp w0 w1 (ARow d e v1 ys :: Ps) := by
  obtain ⟨S1, h1, h2⟩ := h.use1
  have h1 : d.R e W 0 S1 v xs := h1
  refine ⟨fun k => S1 k ∨ W.heap.size ≤ k, Kd.R_mono h1 (fun _ hk => .inl hk), fun _ hk => .inr hk, fun v1 w1 ys hR hg => h2 w1 (ARow d e v1 ys) ⟨hg.os, hg.tape, hg.output, hg.size, fun k hk hn => hg.block k hk (fun e' => hn (h1.1 k e'.symm))⟩ hR⟩
end Go.Proofs.Ytidjapjidihbpaa
namespace Go.Proofs.Ytidjapjidihbpaa
open Go.RowKit Go.Proofs.YtidjapjidihbpaaW.PrintWords

theorem lt_of_same {w w' : World} {k : Nat} (hk : k < w.heap.size) (h : w'.heap[k]? = w.heap[k]?) : k < w'.heap.size := by
  rw [Array.getElem?_eq_getElem hk] at h
  exact (Array.getElem?_eq_some_iff.1 h).1
theorem Star.move' : ∀ {Ps : List Asn} {w w' : World} {S : Nat → Prop}, Star Ps w S → (∀ k, S k → k < w.heap.size → w'.heap[k]? = w.heap[k]?) → Star Ps w' S
  | [], _, _, _, _, _ => trivial
  | P :: _, _, _, _, ⟨S1, h1, h2, h3⟩, hm => ⟨S1, P.move h1 (fun k hk hl => hm k (h2 k hk).1 hl), fun k hk => ⟨(h2 k hk).1, lt_of_same (h2 k hk).2 (hm k (h2 k hk).1 (h2 k hk).2)⟩, Star.move' h3 (fun k hk hl => hm k hk.1 hl)⟩
/-- Some objects as one. -/
def AStar (Ps : List Asn) : Asn where
  pred w S := Star Ps w S
  mono h hm := Star.mono h hm
  move h hm := Star.move' h hm
/-- One of many. -/
def AEx {α : Type} (f : α → Asn) : Asn where
  pred w S := ∃ a, (f a).pred w S
  mono h hm := by obtain ⟨a, h⟩ := h; exact ⟨a, (f a).mono h hm⟩
  move h hm := by obtain ⟨a, h⟩ := h; exact ⟨a, (f a).move h hm⟩
/-- With a fact. -/
def AIf (p : Prop) (P : Asn) : Asn where
  pred w S := p ∧ P.pred w S
  mono h hm := ⟨h.1, P.mono h.2 hm⟩
  move h hm := ⟨h.1, P.move h.2 hm⟩
theorem Star.split : ∀ {Qs Ps : List Asn} {w : World} {S : Nat → Prop}, Star (Qs ++ Ps) w S → ∃ T : Nat → Prop, Star Qs w T ∧ (∀ k, T k → S k ∧ k < w.heap.size) ∧ Star Ps w (fun k => S k ∧ ¬ T k)
  | [], _, _, _, h => ⟨fun _ => False, trivial, fun _ hk => hk.elim, Star.mono h (fun _ hk _ => ⟨hk, fun e => e⟩)⟩
  | Q :: Qs, Ps, w, S, ⟨S1, h1, h2, h3⟩ => by
    obtain ⟨T, h4, h5, h6⟩ := Star.split (Qs := Qs) (Ps := Ps) h3
    refine ⟨fun k => S1 k ∨ T k, Star.cons h1 h4 (fun k a b => (h5 k b).1.2 a), fun k hk => ?_, Star.mono h6 (fun k hk _ => ?_)⟩
    · rcases hk with hk | hk
      · exact h2 k hk
      · exact ⟨(h5 k hk).1.1, (h5 k hk).2⟩
    · exact ⟨hk.1.1, fun e => e.elim hk.1.2 hk.2⟩
section
variable {w0 w : World} {Ps Qs : List Asn}
theorem Hp.unstar (h : Hp w0 w (AStar Qs :: Ps)) : Hp w0 w (Qs ++ Ps) := by
  obtain ⟨S1, h1, _, h2⟩ := h.use
  exact h2 w Qs (Keep.refl _ _) (Star.mono h1 (fun _ hk _ => .inl hk))
theorem Hp.star (h : Hp w0 w (Qs ++ Ps)) : Hp w0 w (AStar Qs :: Ps) := by
  obtain ⟨T, h1, h2, h3⟩ := Star.split h.2
  exact ⟨h.1, T, h1, h2, h3⟩
theorem Hp.unex {α : Type} {f : α → Asn} (h : Hp w0 w (AEx f :: Ps)) : ∃ a, Hp w0 w (f a :: Ps) := by
  obtain ⟨hb, S1, ⟨a, h1⟩, h2, h3⟩ := h
  exact ⟨a, hb, S1, h1, h2, h3⟩
theorem Hp.ex {α : Type} {f : α → Asn} (a : α) (h : Hp w0 w (f a :: Ps)) : Hp w0 w (AEx f :: Ps) := by
  obtain ⟨hb, S1, h1, h2, h3⟩ := h
  exact ⟨hb, S1, ⟨a, h1⟩, h2, h3⟩
theorem Hp.unif {p : Prop} {P : Asn} (h : Hp w0 w (AIf p P :: Ps)) : p ∧ Hp w0 w (P :: Ps) := by
  obtain ⟨hb, S1, ⟨hp, h1⟩, h2, h3⟩ := h
  exact ⟨hp, hb, S1, h1, h2, h3⟩
theorem Hp.if_ {p : Prop} {P : Asn} (hp : p) (h : Hp w0 w (P :: Ps)) : Hp w0 w (AIf p P :: Ps) := by
  obtain ⟨hb, S1, h1, h2, h3⟩ := h
  exact ⟨hb, S1, ⟨hp, h1⟩, h2, h3⟩
end
end Go.Proofs.Ytidjapjidihbpaa
namespace Go.Proofs.Ytidjapjidihbpaa
open Go.RowKit Go.Proofs.YtidjapjidihbpaaW.PrintWords Go.Deep

/-- Whatever the form reads at type t is data of kind d (that meets ok). -/
structure Opens {α : Type} (P : Program) (t : TypeId) (d : Kd α) (ok : α → Prop) : Prop where
  cells : P.cellsOf t = d.sz
  get : ∀ {H : Type} {enc : TypeId × Value → H} {w : World} {held : Bool} {fuel : Nat} {cs : List Value} {x : DataW H × List MemPlace},
    DataW.trod enc P w 0 (fun _ => true) held fuel t cs = some x → ∃ a, d.K w a cs ∧ ok a

theorem opens_int {P : Program} {t : TypeId} {k : IntKind} (ht : P.underlying t = some (.int k)) (hc : P.cellsOf t = 1) : Opens P t (Kd.int k) (fun n => (Lit.int k n).wf = true) :=
  ⟨hc, fun h => by obtain ⟨n, rfl, _, hw⟩ := DataW.trod_int ht h; exact ⟨n, rfl, hw⟩⟩
theorem opens_bool {P : Program} {t : TypeId} (ht : P.underlying t = some .bool) (hc : P.cellsOf t = 1) : Opens P t Kd.bool (fun _ => True) :=
  ⟨hc, fun h => by obtain ⟨n, rfl, _⟩ := DataW.trod_bool ht h; exact ⟨n, rfl, trivial⟩⟩
theorem opens_string {P : Program} {t : TypeId} (ht : P.underlying t = some .string) (hc : P.cellsOf t = 1) : Opens P t Kd.string (fun s => s.size ≤ maxLen) :=
  ⟨hc, fun h => by obtain ⟨n, rfl, _, hs⟩ := DataW.trod_string ht h; exact ⟨n, rfl, hs⟩⟩

theorem opens_slice {α : Type} {P : Program} {t e : TypeId} {d : Kd α} {ok : α → Prop} (ht : P.underlying t = some (.slice e)) (hc : P.cellsOf t = 1) (he : Opens P e d ok) : Opens P t (Kd.slice e d) (fun xs => ∀ x ∈ xs, ok x) := by
  refine ⟨hc, fun {H enc w held fuel cs x} h => ?_⟩
  rcases open_slice ht h with ⟨rfl, _⟩ | ⟨a, len, cap, m, n, D, Pl, rfl, _, hl, hm, hmm, _, hel⟩
  · exact ⟨[], ⟨none, 0, rfl, Nat.le_refl _, Kd.C_nil _ _⟩, by simp⟩
  · have hle : len ≤ m := by rw [hmm]; simpa using hl
    have hex : ∀ i, i < len → ∃ x : α × List Value, d.K w x.1 x.2 ∧ ok x.1 ∧ x.2.length = d.sz ∧ ∀ j u, x.2[j]? = some u → w.cell? (a.add (i * d.sz + j)) = some u := by
      intro i hi
      obtain ⟨cs', h1, h2⟩ := hel i (by omega)
      obtain ⟨b, hK, hok⟩ := he.get h2
      refine ⟨(b, cs'), hK, hok, d.K_len hK, fun j u hu => ?_⟩
      rw [he.cells] at h1
      obtain ⟨_, hlen, hcell⟩ := World.cells?_some h1
      have hj : j < cs'.length := (List.getElem?_eq_some_iff.1 hu).1
      have := hcell j (by omega)
      rw [Deep.add_add] at this
      rw [this]
      exact hu
    by_cases h0 : len = 0
    · subst h0
      exact ⟨[], ⟨some a, cap, rfl, by simp, rfl, by simp, fun h => absurd h (by simp)⟩, by simp⟩
    · obtain ⟨x0, _⟩ := hex 0 (by omega)
      haveI : Inhabited (α × List Value) := ⟨x0⟩
      obtain ⟨f, hf⟩ := choose_lt hex
      have hlen : ((List.range len).map fun i => (f i).1).length = len := by simp
      refine ⟨(List.range len).map fun i => (f i).1, ⟨some a, cap, by rw [hlen], by rw [hlen]; exact hl, ?_⟩, ?_⟩
      · refine ⟨rfl, by rw [hlen]; unfold maxLen at hm; omega, fun _ => ⟨a, rfl, fun j p hj => ?_⟩⟩
        have hjl : j < len := by
          have := (List.getElem?_eq_some_iff.1 hj).1
          rwa [hlen] at this
        have hp : p = (f j).1 := by
          rw [List.getElem?_map, List.getElem?_range hjl] at hj
          simpa using hj.symm
        subst hp
        exact ⟨(f j).2, (hf j hjl).2.2.1, (hf j hjl).1, (hf j hjl).2.2.2⟩
      · intro y hy
        obtain ⟨i, hi, rfl⟩ := List.mem_map.1 hy
        exact (hf i (List.mem_range.1 hi)).2.1

/-- The fields of a struct from an offset on. -/
inductive Fields (P : Program) : {β : Type} → List Field → Nat → Kd β → (β → Prop) → Prop
  | last {α : Type} {f : Field} {off : Nat} {d : Kd α} {ok : α → Prop} (h : Opens P f.type d ok) (ho : f.offset = off) : Fields P [f] off d ok
  | cons {α β : Type} {f : Field} {fs : List Field} {off off' : Nat} {d : Kd α} {ok : α → Prop} {d2 : Kd β} {ok2 : β → Prop} (h : Opens P f.type d ok) (ho : f.offset = off) (h2 : Fields P fs off' d2 ok2) (ho' : off' = off + d.sz) :
      Fields P (f :: fs) off (Kd.pair d d2) (fun x => ok x.1 ∧ ok2 x.2)

theorem Fields.get {P : Program} {β : Type} {fs : List Field} {off : Nat} {d : Kd β} {ok : β → Prop} (h : Fields P fs off d ok) {H : Type} {enc : TypeId × Value → H} {w : World} {held : Bool} {n : Nat} {cs : List Value}
    (hlen : cs.length = off + d.sz)
    (hf : ∀ f, f ∈ fs → ∃ y, DataW.trod enc P w 0 (fun _ => true) held n f.type ((cs.drop f.offset).take (P.cellsOf f.type)) = some y) : ∃ a, d.K w a (cs.drop off) ∧ ok a := by
  induction h with
  | @last α f off d ok h ho =>
    obtain ⟨y, hy⟩ := hf f (by simp)
    obtain ⟨a, hK, hok⟩ := h.get hy
    rw [h.cells, ho, List.take_of_length_le (by rw [List.length_drop]; omega)] at hK
    exact ⟨a, hK, hok⟩
  | @cons α β f fs off off' d ok d2 ok2 h ho h2 ho' ih =>
    obtain ⟨y, hy⟩ := hf f (by simp)
    obtain ⟨a, hK, hok⟩ := h.get hy
    rw [h.cells, ho] at hK
    have hsz : (Kd.pair d d2).sz = d.sz + d2.sz := rfl
    obtain ⟨b, hK2, hok2⟩ := ih (by omega) (fun g hg => hf g (List.mem_cons_of_mem _ hg))
    refine ⟨(a, b), ⟨(cs.drop off).take d.sz, cs.drop off', ?_, hK, hK2⟩, hok, hok2⟩
    rw [ho', ← List.drop_drop, List.take_append_drop]

theorem opens_struct {P : Program} {β : Type} {t : TypeId} {fs : Array Field} {d : Kd β} {ok : β → Prop} (ht : P.underlying t = some (.struct fs)) (hc : P.cellsOf t = d.sz) (h : Fields P fs.toList 0 d ok) : Opens P t d ok := by
  refine ⟨hc, fun {H enc w held fuel cs x} hx => ?_⟩
  obtain ⟨xs, n, _, _, hl, hlen, hf⟩ := DataW.trod_struct ht hx
  refine Fields.get h (cs := cs) (n := n) (enc := enc) (held := held) (by rw [hl, hc]; omega) (fun f hfm => ?_)
  obtain ⟨i, hi, rfl⟩ := List.getElem_of_mem hfm
  have hi' : i < fs.size := by simpa using hi
  have h1 := hf i fs[i] (by simp [hi'])
  have h2 : i < xs.length := by omega
  refine ⟨xs[i], ?_⟩
  rw [List.getElem?_eq_getElem h2] at h1
  simpa using h1

/-- An argument that is a slice. -/
theorem arg_slice {α : Type} {P : Program} {t e : TypeId} {d : Kd α} {ok : α → Prop} (ht : P.underlying t = some (.slice e)) (hc : P.cellsOf t = 1) (he : Opens P e d ok) {H : Type} {enc : TypeId × Value → H} {w : World} {held : Bool} {a : Option Addr} {len cap : Nat} {y : DataW H} {ps : List MemPlace}
    (h : DataW.Trod enc P w 0 (fun _ => true) held t (.slice a len cap) y ps) : ∃ xs : List α, d.C w a len xs ∧ len ≤ cap ∧ ∀ x ∈ xs, ok x := by
  obtain ⟨fuel, hf⟩ := h
  obtain ⟨xs, ⟨A, c, hcs, hle, hC⟩, hok⟩ := (opens_slice ht hc he).get hf
  have hcs' : [Value.slice a len cap] = [.slice A xs.length c] := by simpa [Value.cells] using hcs
  injection hcs' with h1 _
  injection h1 with h1 h2 h3
  subst h1 h2 h3
  exact ⟨xs, hC, hle, hok⟩

end Go.Proofs.Ytidjapjidihbpaa
namespace Go.Proofs.Ytidjapjidihbpaa
open Go.RowKit Go.Proofs.YtidjapjidihbpaaW.PrintWords

theorem info_byte : (Try.prog.info? 5).map (fun i => (i.zero, i.size, i.bytes)) = some (some (.int .u8 0), 1, 1) := by kernel_rfl
set_option maxHeartbeats 400000 in
theorem clone_byte (A : Option Addr) (c : Nat) (xs : List Int) (w : World) (hC : (Kd.int .u8).C w A xs.length xs) (hc : xs.length ≤ c) (hb : xs.length * 1 ≤ 140737488355328) :
    Calls Try.prog 34 #[.slice A xs.length c] w fun e w' => ∃ A' c', e = .returned (.slice A' xs.length c') ∧ Kd.R (Kd.int .u8) 5 w' w.heap.size (fun _ => True) (.slice A' xs.length c') xs ∧ Below w.heap.size w w' := by
  have hnil := fun (w : World) (a : Option Addr) (n c : Nat) => Lib.run_eql_slice_nil (P := Try.prog) w 30 5 a n c 0 0 Try.underlying30
  cases A with
  | none =>
    have h0 : xs = [] := by
      by_cases h : 0 < xs.length
      · obtain ⟨ad, h1, _⟩ := hC.2.2 h; cases h1
      · exact List.eq_nil_of_length_eq_zero (by omega)
    subst h0
    go_enter Try.func34, Try.ntmps34
    go_wp2
    go_ret
    exact ⟨_, _, rfl, Kd.R_nil _ _ _ _ _, Below.refl _ _⟩
  | some ad =>
    go_enter Try.func34, Try.ntmps34
    go_wp2_with (at_builtin; refine Kd.R_append_rows (Kd.int .u8) (w0 := w) w.heap.size rfl (.tmp 5) (.tmp 6) 30 5 (.int .u8 0) 1 rfl Try.underlying30 info_byte rfl (by decide) (by omega) (.slice (some ⟨w.heap.size, 0, none⟩) 0 0) [] xs (some ad) xs.length c (fun _ => True) (fun _ => False) rfl rfl ?a1 ?a2 (fun _ _ h => h) (fun _ h => h.elim) (fun _ _ => trivial) (below_alloc (Below.refl _ _) _) ?a3 ?a4 ?a5)
    case a1 => exact R_empty _ _ _ _ _ (Nat.le_refl _) trivial
    case a2 => exact Kd.C_alloc hC _
    case a3 => simp
    case a4 => simpa using hb
    case a5 =>
      intro v1 w1 h1 h2 _ _
      obtain ⟨A', c', hv⟩ := Kd.R_slice h1
      have HV := Lib.hid hv
      clear hv
      go_wp2
      go_ret
      exact ⟨A', c', by rw [HV.out]; simp, by rw [HV.out] at h1; simpa using h1, h2⟩

end Go.Proofs.Ytidjapjidihbpaa
namespace Go.Proofs.Ytidjapjidihbpaa

/-- A number's bytes: seven bits each, the low ones first. -/
def encNat (n : Nat) : List Int := if h : n < 128 then [(n : Int)] else ((128 + n % 128 : Nat) : Int) :: encNat (n / 128)
termination_by n
decreasing_by omega
def encNum (v : Int) : List Int := encNat v.toNat
theorem encNat_small {n : Nat} (h : n < 128) : encNat n = [(n : Int)] := by rw [encNat, dif_pos h]
theorem encNat_big {n : Nat} (h : ¬ n < 128) : encNat n = ((128 + n % 128 : Nat) : Int) :: encNat (n / 128) := by rw [encNat, dif_neg h]
theorem encNat_len : ∀ (k n : Nat), n < 128 ^ (k + 1) → (encNat n).length ≤ k + 1
  | 0, n, h => by rw [encNat_small (by simpa using h)]; simp
  | k + 1, n, h => by
    by_cases hn : n < 128
    · rw [encNat_small hn]; simp
    · rw [encNat_big hn, List.length_cons]
      have := encNat_len k (n / 128) (by rw [Nat.div_lt_iff_lt_mul (by omega)]; rw [Nat.pow_succ] at h; exact h)
      omega
theorem encNum_len {v : Int} (h : v ≤ 9223372036854775807) : (encNum v).length ≤ 9 := encNat_len 8 _ (by show v.toNat < 9223372036854775808; omega)
end Go.Proofs.Ytidjapjidihbpaa
namespace Go.Proofs.Ytidjapjidihbpaa
open Go.RowKit Go.Proofs.YtidjapjidihbpaaW.PrintWords

abbrev ABy (v : Value) (xs : List Int) : Asn := ARow (Kd.int .u8) 5 v xs

theorem or_all : ∀ k : Fin 256, bits .or .u8 ((k : Nat) : Int) 128 = 128 + ((k : Nat) : Int) % 128 := by decide +kernel
theorem or128 (m : Int) : bits .or .u8 (m % 256) 128 = 128 + m % 128 := by
  have h := or_all ⟨(m % 256).toNat, by omega⟩
  have e : (((m % 256).toNat : Nat) : Int) = m % 256 := by omega
  simp only [e] at h
  rw [h]
  omega
set_option maxHeartbeats 800000 in
set_option maxRecDepth 100000 in
theorem coNum_any (A : Option Addr) (n cap : Nat) (xs : List Int) (v : Int) (w : World) (hC : (Kd.int .u8).C w A n xs) (hc : n ≤ cap) (hn : n ≤ 1000000) (hv : v ≤ 9223372036854775807) :
    Calls Try.prog 15 #[.slice A n cap, .int .i64 v] w fun e w' => ∃ A' n' c', e = .returned (.slice A' n' c') ∧ (Kd.int .u8).R 5 w' 0 (fun k => w.heap.size ≤ k) (.slice A' n' c') (xs ++ encNum v) ∧ Below w.heap.size w w' := by
  have hnx := Kd.C_len hC
  subst hnx
  have HC := Lib.hid hC
  clear hC
  obtain ⟨rm, hrm⟩ : ∃ rm, rm = max v 0 := ⟨_, rfl⟩
  have hmx : ∀ ts t W, (Builtin.max_ ts t #[.int .i64 v, .int .i64 0]).run Try.prog W = .ok (.int .i64 rm) W := by
    intro ts t W
    simp [Builtin.max_, Builtin.max2]
    rw [hrm]
    split <;> omega
  have hen : encNum v = encNat rm.toNat := by
    unfold encNum
    congr 1
    omega
  have HEN := Lib.hid hen
  have hrm0 : 0 ≤ rm ∧ rm ≤ 9223372036854775807 := by omega
  have HLN := Lib.hid (encNum_len hv)
  clear hrm hen
  go_enter Try.func15, Try.ntmps15
  go_wp2_with fail
  refine Calls.mono (clone_byte A cap xs w HC.out hc (by omega)) ?_
  rintro e w1 ⟨A1, c1, rfl, hR1, hB1⟩
  have HP1 := Lib.hid ((Hp.nil w).row hB1 hR1)
  clear hR1 hB1
  go_wp2_with fail
  go_loopw [1, 5] (fun nv o wr => ∃ (m : Int) (pre : List Int), nv = .int .i64 m ∧ 0 ≤ m ∧ m ≤ rm ∧ Hid (pre ++ encNat m.toNat = encNum v) ∧ pre.length ≤ 9 ∧ Hp w wr [ABy o (xs ++ pre)]) (fun nv _ _ => (intOf nv).toNat)
  case atStart => exact ⟨rm, [], rfl, hrm0.1, Int.le_refl _, Lib.hid HEN.out.symm, by simp, by rw [List.append_nil]; exact HP1.out⟩
  case round =>
    obtain ⟨m, pre, rfl, hm0, hmr, HPE, hpl, hP⟩ := hrel
    have HP := Lib.hid hP
    clear hP
    by_cases hm : 128 ≤ m
    · have hbo := or128 m
      obtain ⟨okr, hR1, hR2, hR3⟩ := HP.out.appended
      have HR1 := Lib.hid hR1
      have HR2 := Lib.hid hR2
      have HR3 := Lib.hid hR3
      clear hR1 hR2 hR3
      go_wp2_with (at_builtin; refine Kd.R_append (Kd.int .u8) (w0 := wr) 0 rfl (.tmp 14) (.tmp 18) 30 5 (.int .u8 0) 1 rfl Try.underlying30 info_byte rfl (by decide) (by omega) u5 (xs ++ pre) (128 + m % 128) [.int .u8 (128 + m % 128)] okr (fun _ => False) rfl (by first | rfl | (rw [hbo]; rfl)) rfl (fun _ hk => hk.elim) HR2.out HR1.out (Below.refl _ _) (Nat.zero_le _) (by rw [List.length_append]; omega) ?_; intro v5 w5 hR5 hB5 hg5 _)
      have HP5 := Lib.hid (HR3.out _ _ _ hR5 hg5)
      have hE := HPE.out
      rw [encNat_big (by omega : ¬ m.toNat < 128)] at hE
      have hE2 : (pre ++ [128 + m % 128]) ++ encNat (m / 128).toNat = encNum v := by
        rw [← hE, List.append_assoc]
        congr 1
        show [128 + m % 128] ++ encNat (m / 128).toNat = _
        rw [List.singleton_append]
        congr 1
        · omega
        · congr 1
          omega
      have hpl2 : (pre ++ [128 + m % 128]).length ≤ 9 := by
        have h1 := congrArg List.length hE2
        have h2 := HLN.out
        rw [List.length_append] at h1
        omega
      refine ⟨⟨m / 128, pre ++ [128 + m % 128], rfl, by omega, by omega, Lib.hid hE2, hpl2, by rw [← List.append_assoc]; exact HP5.out⟩, ?_⟩
      simp [intOf]
      omega
    · obtain ⟨okr, hR1, hR2, hR3⟩ := HP.out.appended
      have HR1 := Lib.hid hR1
      have HR2 := Lib.hid hR2
      have HR3 := Lib.hid hR3
      clear hR1 hR2 hR3
      go_wp2_with (at_builtin; refine Kd.R_append (Kd.int .u8) (w0 := wr) 0 rfl (.tmp 20) (.tmp 23) 30 5 (.int .u8 0) 1 rfl Try.underlying30 info_byte rfl (by decide) (by omega) u5 (xs ++ pre) m [.int .u8 m] okr (fun _ => False) rfl rfl rfl (fun _ hk => hk.elim) HR2.out HR1.out (Below.refl _ _) (Nat.zero_le _) (by rw [List.length_append]; omega) ?_; intro v5 w5 hR5 hB5 hg5 _)
      have HP5 := Lib.hid (HR3.out _ _ _ hR5 hg5)
      have he : xs ++ pre ++ [m] = xs ++ encNum v := by
        rw [← HPE.out, encNat_small (by omega), List.append_assoc]
        congr 3
        omega
      rw [he] at HP5
      clear hR5 hB5 hg5 he
      obtain ⟨Av, cv, hv5⟩ := Kd.R_slice HP5.out.head
      generalize (xs ++ encNum v).length = n5 at hv5
      subst hv5
      go_ret
      exact ⟨Av, n5, cv, rfl, HP5.out.head, HP5.out.belowW⟩

set_option maxHeartbeats 800000 in
set_option maxRecDepth 100000 in
theorem coNums_any (A : Option Addr) (n cap : Nat) (xs : List Int) (B : Option Addr) (k bcap : Nat) (ys : List Int) (w : World) (hC : (Kd.int .u8).C w A n xs) (hc : n ≤ cap) (hn : n ≤ 100000) (hD : (Kd.int .i64).C w B k ys) (hk : k ≤ 1000) (hy : ∀ y ∈ ys, y ≤ 9223372036854775807) :
    Calls Try.prog 25 #[.slice A n cap, .slice B k bcap] w fun e w' => ∃ A' n' c', e = .returned (.slice A' n' c') ∧ (Kd.int .u8).R 5 w' 0 (fun k => w.heap.size ≤ k) (.slice A' n' c') (xs ++ encNum k ++ (ys.map encNum).flatten) ∧ Below w.heap.size w w' := by
  have HC := Lib.hid hC
  have HD := Lib.hid hD
  have HY := Lib.hid hy
  have HK := Lib.hid (Kd.C_len hD)
  have HNX := Lib.hid (Kd.C_len hC)
  have hkm := Kd.C_max hD
  clear hC hD hy
  have HL0 := Lib.hid (encNum_len (v := (k : Int)) (by omega))
  go_enter Try.func25, Try.ntmps25
  go_wp2_with fail
  refine Calls.mono (coNum_any A n cap xs k w HC.out hc (by omega) (by omega)) ?_
  rintro e w1 ⟨A1, n1, c1, rfl, hR1, hB1⟩
  have hP1 : Hp w w1 [ABy (.slice A1 n1 c1) (xs ++ encNum k)] := (Hp.nil w).fresh hB1 hR1
  have HP1 := Lib.hid hP1
  clear hR1 hB1 hP1
  go_wp2_with fail
  go_loopw [5, 14] (fun o i wr => ∃ (j : Nat) (A2 : Option Addr) (n2 c2 : Nat), i = .int .i64 j ∧ j ≤ k ∧ o = .slice A2 n2 c2 ∧ Hp w wr [ABy (.slice A2 n2 c2) (xs ++ encNum k ++ ((ys.take j).map encNum).flatten)] ∧ Hid (((ys.take j).map encNum).flatten.length ≤ 9 * j)) (fun _ i _ => k - (intOf i).toNat)
  case atStart => exact ⟨0, A1, n1, c1, rfl, Nat.zero_le _, rfl, by simpa using HP1.out, Lib.hid (by simp)⟩
  case round =>
    obtain ⟨j, A2, n2, c2, rfl, hj, rfl, hP, HFL⟩ := hrel
    have HP := Lib.hid hP
    clear hP
    by_cases hjk : j < k
    · obtain ⟨ad, y, rfl, hx, d0⟩ := C_nth_scalar (Kd.C_below HD.out HP.out.belowW) j hjk
      have i0 : (0 : Int) ≤ (j : Int) := by omega
      have i1 : (j : Int) < (k : Int) := by omega
      have hy1 := HY.out y (List.mem_of_getElem? hx)
      have htk : ((ys.take (j + 1)).map encNum).flatten = ((ys.take j).map encNum).flatten ++ encNum y := by
        rw [List.take_add_one, hx]
        simp
      have HT := Lib.hid htk
      have HL := Lib.hid (encNum_len hy1)
      obtain ⟨hn2, hc2, hC2⟩ := Kd.R_reads' HP.out.head
      have hn2b : n2 ≤ 1000000 := by
        have := HFL.out
        have := HL0.out
        have := HNX.out
        rw [hn2]
        simp only [List.length_append]
        omega
      have HC2 := Lib.hid hC2
      rw [← hn2] at HC2
      clear hn2 hC2 hx htk
      go_wp2_with fail
      refine Calls.mono (coNum_any A2 n2 c2 _ y wr HC2.out hc2 hn2b hy1) ?_
      rintro e w3 ⟨A3, n3, c3, rfl, hR3, hB3⟩
      have hP3 : Hp w w3 [ABy (.slice A3 n3 c3) (xs ++ encNum k ++ ((ys.take (j + 1)).map encNum).flatten)] := by
        rw [HT.out, ← List.append_assoc]
        exact (HP.out.fresh (Q := ABy (.slice A3 n3 c3) (xs ++ encNum k ++ ((ys.take j).map encNum).flatten ++ encNum y)) hB3 hR3).only1
      have HP3 := Lib.hid hP3
      clear hR3 hB3 hP3
      go_wp2_with fail
      refine ⟨⟨j + 1, A3, n3, c3, by simp, by omega, rfl, HP3.out, Lib.hid ?_⟩, ?_⟩
      · rw [HT.out, List.length_append]
        have := HFL.out
        have := HL.out
        omega
      · simp [intOf]
        omega
    · have hjk' : j = k := by omega
      subst hjk'
      have htk : ys.take j = ys := List.take_of_length_le (by rw [HK.out]; exact Nat.le_refl _)
      rw [htk] at HP
      clear htk
      go_wp2_with fail
      go_ret
      exact ⟨A2, n2, c2, rfl, HP.out.head, HP.out.belowW⟩
end Go.Proofs.Ytidjapjidihbpaa
namespace Go.Proofs.Ytidjapjidihbpaa
open Go.RowKit Go.Proofs.YtidjapjidihbpaaW.PrintWords

theorem R_nums {k : IntKind} {e : Nat} {w : World} {base : Nat} {ok : Nat → Prop} {v : Value} {xs : List Int} (h : (Kd.int k).R e w base ok v xs) : w.ownsRow base e 1 v xs.length (nums k xs) := by
  obtain ⟨_, inner, ho, hl, hr⟩ := h
  have hl : inner.length = xs.length := by rw [hl]; show xs.length * 1 = _; omega
  have : inner = nums k xs := by
    apply List.ext_getElem?
    intro j
    unfold nums
    rw [List.getElem?_map]
    cases hx : xs[j]? with
    | none =>
      rw [List.getElem?_eq_none_iff] at hx
      rw [List.getElem?_eq_none (by omega)]
      rfl
    | some x =>
      have h1 : (inner.drop (j * 1)).take 1 = [Value.int k x] := hr j x hx
      rw [Nat.mul_one] at h1
      have hj : j < inner.length := by have := (List.getElem?_eq_some_iff.1 hx).1; omega
      have h2 := congrArg (fun l => l[0]?) h1
      simp only [List.getElem?_take, List.getElem?_drop] at h2
      simpa using h2
  rw [← this]
  exact ho
theorem R_of_nums {k : IntKind} {e : Nat} {w : World} {base : Nat} {ok : Nat → Prop} {v : Value} {xs : List Int} (h0 : ∀ b, v.ownBlock = some b → ok b) (h : w.ownsRow base e 1 v xs.length (nums k xs)) : (Kd.int k).R e w base ok v xs := by
  refine ⟨h0, nums k xs, h, by rw [nums_length]; show _ = xs.length * 1; omega, fun j x hx => ?_⟩
  show ((nums k xs).drop (j * 1)).take 1 = [Value.int k x]
  rw [Nat.mul_one]
  have hj := (List.getElem?_eq_some_iff.1 hx).1
  rw [List.take_one, List.head?_drop]
  unfold nums
  rw [List.getElem?_map, hx]
  rfl
theorem own_lift {w : World} {b b' e size n : Nat} {v : Value} {cs : List Value} (h : w.ownsRow b e size v n cs) (hb : ∀ k, v.ownBlock = some k → b' ≤ k) : w.ownsRow b' e size v n cs := by
  obtain ⟨h1, h2⟩ := h
  refine ⟨h1, ?_⟩
  rcases h2 with h2 | ⟨g, cap, cur, h3, h4, h5⟩
  · exact .inl h2
  · exact .inr ⟨g, cap, cur, h3, hb g (by rw [h3]; rfl), h5⟩
def encText (s : ByteArray) : List Int := encNum s.size ++ bytesOf s

set_option maxHeartbeats 800000 in
set_option maxRecDepth 100000 in
theorem coText_any (A : Option Addr) (n cap : Nat) (xs : List Int) (s : ByteArray) (w : World) (hC : (Kd.int .u8).C w A n xs) (hc : n ≤ cap) (hn : n ≤ 1000000) (hs : s.size ≤ 1000000) :
    Calls Try.prog 17 #[.slice A n cap, .string s] w fun e w' => ∃ A' n' c', e = .returned (.slice A' n' c') ∧ (Kd.int .u8).R 5 w' 0 (fun k => w.heap.size ≤ k) (.slice A' n' c') (xs ++ encText s) ∧ Below w.heap.size w w' := by
  have HC := Lib.hid hC
  have HNX := Lib.hid (Kd.C_len hC)
  clear hC
  have hsz : (s.size : Int) ≤ 9223372036854775807 := by omega
  have HL := Lib.hid (encNum_len hsz)
  go_enter Try.func17, Try.ntmps17
  go_wp2_with fail
  refine Calls.mono (coNum_any A n cap xs s.size w HC.out hc hn hsz) ?_
  rintro e w1 ⟨A1, n1, c1, rfl, hR1, hB1⟩
  have hn1 := (Kd.R_reads' hR1).1
  have HW1 := Lib.hid (own_lift (R_nums hR1) hR1.1)
  have HR1 := Lib.hid hR1
  have hB0 := hB1.size
  have HB1 := Lib.hid hB1
  have hlen : (xs ++ encNum s.size).length + s.size ≤ 140737488355328 := by
    have := HNX.out
    have := HL.out
    rw [List.length_append]
    omega
  clear hR1 hB1 hn1
  go_wp2_with (at_builtin; refine print_append_str w.heap.size rfl (.tmp 8) (.tmp 9) 30 9 5 rfl Try.underlying30 Try.underlying9 info_byte (.slice A1 n1 c1) (xs ++ encNum s.size) s rfl rfl HW1.out HB1.out HB1.out.size hlen ?_; intro v5 w5 hR5 hB5 hg5)
  have hRR : (Kd.int .u8).R 5 w5 0 (fun k => w.heap.size ≤ k) v5 (xs ++ encText s) := by
    unfold encText
    rw [← List.append_assoc]
    exact R_of_nums (fun b hb => own_base hR5 b hb) (own_weaken hR5 (Nat.zero_le _))
  obtain ⟨Av, cv, hv5⟩ := Kd.R_slice hRR
  generalize (xs ++ encText s).length = n5 at hv5
  subst hv5
  go_ret
  exact ⟨Av, n5, cv, rfl, hRR, hB5⟩
end Go.Proofs.Ytidjapjidihbpaa
