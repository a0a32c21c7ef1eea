/- Plain lemmas on rows in memory (kinds 'Kd' of the printed words), blocks that are kept, cuts: no program in them. -/
import Derived.Test.YtehkhopkedbngaaProg
import Derived.Test.YtehkhopkedbngaaWKept
import Derived.Lib.AppendZeros
import Derived.Lib.LazyBuf
import Derived.Lib.Hide
import Derived.WalkSpells
import Derived.WalkLawsBesides
namespace Go.Proofs.Ytehkhopkedbngaa
open Go.RowKit Go.Proofs.YtehkhopkedbngaaW.PrintWords

theorem R_empty {α : Type} (d : Kd α) (e : Nat) (w : World) (base : Nat) (ok : Nat → Prop) (hb : base ≤ w.heap.size) (ho : ok w.heap.size) :
    d.R e (w.alloc (.cells #[] e)) base ok (.slice (some ⟨w.heap.size, 0, none⟩) 0 0) [] := by
  refine ⟨fun k hk => ?_, [], ⟨by simp, .inr ⟨w.heap.size, 0, #[], rfl, hb, heap_alloc_new w _, Nat.le_refl _, by simp [maxLen], by simp, by simp⟩⟩, Reps.none _ _⟩
  have : w.heap.size = k := by simpa [Value.ownBlock] using hk
  exact this ▸ ho

theorem R_room {α : Type} (d : Kd α) (e : Nat) (w : World) (base : Nat) (ok : Nat → Prop) (hb : base ≤ w.heap.size) (ho : ok w.heap.size) (cap : Nat) (cur : Array Value) (hc : cap ≤ maxLen) (hs : cur.size = cap * d.sz) :
    d.R e (w.alloc (.cells cur e)) base ok (.slice (some ⟨w.heap.size, 0, none⟩) 0 cap) [] := by
  refine ⟨fun k hk => ?_, [], ⟨by simp, .inr ⟨w.heap.size, cap, cur, rfl, hb, heap_alloc_new w _, Nat.zero_le _, hc, hs, by simp⟩⟩, Reps.none _ _⟩
  have : w.heap.size = k := by simpa [Value.ownBlock] using hk
  exact this ▸ ho

/-- One element of a row that is read. -/
theorem C_nth {α : Type} {d : Kd α} {w : World} {A : Option Addr} {n : Nat} {xs : List α} (h : d.C w A n xs) (k : Nat) (hk : k < n) :
    ∃ ad x c, A = some ad ∧ xs[k]? = some x ∧ c.length = d.sz ∧ d.K w x c ∧ ∀ j u, c[j]? = some u → w.cell? (ad.add (k * d.sz + j)) = some u := by
  have hl : k < xs.length := by rw [Kd.C_len h]; exact hk
  obtain ⟨ad, c, hA, h1, h2, h3⟩ := Kd.C_get h xs[k] k (by omega) (by omega)
  simp only [Int.toNat_natCast] at h2 h3
  refine ⟨ad, xs[k], c, hA, by simp [hl], h1, ?_, h3⟩
  simpa [List.getD, hl] using h2
theorem C_nth_slice {α : Type} {d : Kd α} {e : Nat} {w : World} {A : Option Addr} {n : Nat} {xs : List (List α)} (h : (Kd.slice e d).C w A n xs) (k : Nat) (hk : k < n) :
    ∃ ad x A1 c1, A = some ad ∧ xs[k]? = some x ∧ w.cell? (ad.add k) = some (.slice A1 x.length c1) ∧ x.length ≤ c1 ∧ d.C w A1 x.length x := by
  obtain ⟨ad, x, c, hA, hx, _, ⟨A1, c1, rfl, hl, hC⟩, h3⟩ := C_nth h k hk
  refine ⟨ad, x, A1, c1, hA, hx, ?_, hl, hC⟩
  have := h3 0 _ rfl
  simpa [Kd.slice] using this
theorem C_nth_scalar {α : Type} {enc : α → Value} {h1 : ∀ x, (enc x).oneCell' = true} {w : World} {A : Option Addr} {n : Nat} {xs : List α} (h : (Kd.scalar enc h1).C w A n xs) (k : Nat) (hk : k < n) :
    ∃ ad x, A = some ad ∧ xs[k]? = some x ∧ w.cell? (ad.add k) = some (enc x) := by
  obtain ⟨ad, x, c, hA, hx, _, hc, h3⟩ := C_nth h k hk
  have hc' : c = [enc x] := hc
  subst hc'
  refine ⟨ad, x, hA, hx, ?_⟩
  have := h3 0 _ rfl
  simpa [Kd.scalar] using this

/-- How many elements the first k rows have. -/
def flatLen {α : Type} (xss : List (List α)) (k : Nat) : Nat := (xss.take k).flatten.length
theorem flatLen_succ {α : Type} {xss : List (List α)} {k : Nat} {x : List α} (h : xss[k]? = some x) : flatLen xss (k + 1) = flatLen xss k + x.length := by
  unfold flatLen
  rw [List.take_add_one, h]
  simp
theorem flatLen_le {α : Type} (xss : List (List α)) (k : Nat) : flatLen xss k ≤ xss.flatten.length := by
  unfold flatLen
  have h := congrArg (fun l : List (List α) => l.flatten.length) (List.take_append_drop k xss)
  simp only [List.flatten_append, List.length_append] at h
  omega
theorem flatten_succ {α : Type} {xss : List (List α)} {k : Nat} {x : List α} (h : xss[k]? = some x) : (xss.take (k + 1)).flatten = (xss.take k).flatten ++ x := by
  rw [List.take_add_one, h]
  simp

/-- Two rows, as 'f(a, b)' lays them. -/
theorem C_two {α : Type} {d : Kd α} {e g t : Nat} {w : World} {A1 A2 : Option Addr} {n1 n2 c1 c2 : Nat} {xs ys : List α} (hg : w.heap[g]? = some (.cells #[.slice A1 n1 c1, .slice A2 n2 c2] t (0, 0)))
    (h1 : d.C w A1 n1 xs) (hc1 : n1 ≤ c1) (h2 : d.C w A2 n2 ys) (hc2 : n2 ≤ c2) : (Kd.slice e d).C w (some ⟨g, 0, none⟩) 2 [xs, ys] := by
  have e1 := Kd.C_len h1
  have e2 := Kd.C_len h2
  subst e1
  subst e2
  refine ⟨rfl, by omega, fun _ => ⟨_, rfl, fun j x hj => ?_⟩⟩
  match j, hj with
  | 0, hj =>
    obtain rfl := Option.some.inj hj
    refine ⟨_, rfl, ⟨A1, c1, rfl, hc1, h1⟩, fun i u hu => ?_⟩
    match i, hu with
    | 0, hu =>
      obtain rfl := Option.some.inj hu
      rw [add_plain, blk_cell hg]; simp
    | i + 1, hu => simp at hu
  | 1, hj =>
    obtain rfl := Option.some.inj hj
    refine ⟨_, rfl, ⟨A2, c2, rfl, hc2, h2⟩, fun i u hu => ?_⟩
    match i, hu with
    | 0, hu =>
      obtain rfl := Option.some.inj hu
      rw [add_plain, blk_cell hg]; simp [Kd.slice]
    | i + 1, hu => simp at hu
  | j + 2, hj => simp at hj

theorem R_fresh {α : Type} {d : Kd α} {e : Nat} {w : World} {B : Nat} {ok : Nat → Prop} {v : Value} {xs : List α} (h : d.R e w B ok v xs) : d.R e w 0 (fun k => B ≤ k ∧ k < w.heap.size) v xs :=
  Kd.R_lower (Kd.R_mono (Kd.R_bound h) (fun _ hk => ⟨hk.2.1, hk.2.2.1⟩)) (Nat.zero_le _)
theorem below_undrew {w w1 : World} (h : Below w.drew.heap.size w.drew w1) : Below w.heap.size w w1 := ⟨h.os, h.tape, h.output, h.size, h.block⟩

/-- All but the blocks S (of those that were there) is as it was. -/
structure Keep (S : Nat → Prop) (w w' : World) : Prop where
  os : w'.os = w.os
  tape : w'.tape = w.tape
  output : w'.output = w.output
  size : w.heap.size ≤ w'.heap.size
  block : ∀ k, k < w.heap.size → ¬ S k → w'.heap[k]? = w.heap[k]?
theorem Keep.refl (S : Nat → Prop) (w : World) : Keep S w w := ⟨rfl, rfl, rfl, Nat.le_refl _, fun _ _ _ => rfl⟩
theorem Keep.of_below {w w' : World} (h : Below w.heap.size w w') (S : Nat → Prop) : Keep S w w' := ⟨h.os, h.tape, h.output, h.size, fun k hk _ => h.block k hk⟩
theorem Keep.mono {S S' : Nat → Prop} {w w' : World} (h : Keep S w w') (hs : ∀ k, k < w.heap.size → S k → S' k) : Keep S' w w' := ⟨h.os, h.tape, h.output, h.size, fun k hk hn => h.block k hk (fun hS => hn (hs k hk hS))⟩
theorem Keep.trans {S : Nat → Prop} {w w1 w2 : World} (h : Keep S w w1) (h2 : Keep (fun k => S k ∨ w.heap.size ≤ k) w1 w2) : Keep S w w2 :=
  ⟨h2.os.trans h.os, h2.tape.trans h.tape, h2.output.trans h.output, Nat.le_trans h.size h2.size, fun k hk hn => (h2.block k (Nat.lt_of_lt_of_le hk h.size) (fun hS => by rcases hS with hS | hS; exact hn hS; omega)).trans (h.block k hk hn)⟩
theorem Keep.below {S : Nat → Prop} {B : Nat} {w0 w w' : World} (h : Below B w0 w) (hk : Keep S w w') (hB : B ≤ w.heap.size) (hs : ∀ k, k < w.heap.size → S k → B ≤ k) : Below B w0 w' :=
  ⟨hk.os.trans h.os, hk.tape.trans h.tape, hk.output.trans h.output, Nat.le_trans h.size hk.size, fun k hlt => (hk.block k (Nat.lt_of_lt_of_le hlt hB) (fun hS => by have := hs k (Nat.lt_of_lt_of_le hlt hB) hS; omega)).trans (h.block k hlt)⟩
theorem Keep.setCell {S : Nat → Prop} {w w' : World} (h : Keep S w w') {p : Addr} (hp : S p.block ∨ w.heap.size ≤ p.block) (u : Value) : Keep S w (w'.setCell p u) :=
  ⟨h.os, h.tape, h.output, Nat.le_trans h.size (by simp [World.setCell]), fun k hk hn => (Below.heap_setCell w' p u k (fun e => by subst e; rcases hp with hp | hp; exact hn hp; omega)).trans (h.block k hk hn)⟩
theorem Keep.undrew {S : Nat → Prop} {w w' : World} (h : Keep S w.drew w') : Keep S w w' := ⟨h.os, h.tape, h.output, h.size, h.block⟩

theorem run_take {P : Program} (t e : TypeId) {i : TypeInfo} (ht : P.underlying t = some (.slice e)) (hi : P.info? e = some i) (A : Option Addr) (n c m : Nat) (hm : m ≤ n) (hc : n ≤ c) (W : World) :
    (Instr.slice t (.slice A n c) none (some (.int .i64 (m : Int))) none).run P W = .ok (.slice A m c) W := by
  have hel : P.elem t = e := by simp [Program.elem, ht]
  have hu : P.underlying t = some (.slice (P.elem t)) := by rw [hel]; exact ht
  have ha : (A.map fun x => x.add 0) = A := by cases A <;> simp [Addr.add]
  rw [run_slice_h W t A n c hu .i64 (m : Int) (by omega) (by omega), hel]
  simp [sizeOf, typeInfo, hi, sliced, Result.andThen, ha]
theorem run_drop {P : Program} (t e : TypeId) {i : TypeInfo} (ht : P.underlying t = some (.slice e)) (hi : P.info? e = some i) (size : Nat) (hsz : i.size = size) (A : Option Addr) (n c m : Nat) (hm : m ≤ n) (W : World) :
    (Instr.slice t (.slice A n c) (some (.int .i64 (m : Int))) none none).run P W = .ok (.slice (if c = m then A else A.map (·.add (m * size))) (n - m) (c - m)) W := by
  have hel : P.elem t = e := by simp [Program.elem, ht]
  have hu : P.underlying t = some (.slice (P.elem t)) := by rw [hel]; exact ht
  rw [run_slice_l W t A n c hu .i64 (m : Int) (by omega) (by omega), hel]
  simp [sizeOf, typeInfo, hi, hsz, sliced, Result.andThen]
/-- The row up to place m: the value of the cut, and that it reads so. -/
theorem take_row {α : Type} {d : Kd α} {P : Program} (t e : TypeId) {i : TypeInfo} (ht : P.underlying t = some (.slice e)) (hi : P.info? e = some i) {A : Option Addr} {n c : Nat} (m : Nat) {xs : List α} (hm : m ≤ n) (hc : n ≤ c) {w : World} (hC : d.C w A n xs) :
    (∀ W : World, (Instr.slice t (.slice A n c) none (some (.int .i64 (m : Int))) none).run P W = .ok (.slice A m c) W) ∧ d.C w A m (xs.take m) := by
  have hn := Kd.C_len hC
  subst hn
  refine ⟨fun W => run_take t e ht hi A _ c m hm hc W, ?_⟩
  have := Kd.C_take hC hm
  rwa [List.length_take, Nat.min_eq_left hm] at this
/-- The row from place m on: the value of the cut, and that it reads so. -/
theorem drop_row {α : Type} {d : Kd α} {P : Program} (t e : TypeId) {i : TypeInfo} (ht : P.underlying t = some (.slice e)) (hi : P.info? e = some i) (hsz : i.size = d.sz) (A : Option Addr) (c m : Nat) (xs : List α) (hm : m ≤ xs.length) (hc : xs.length ≤ c) {w : World} (hC : d.C w A xs.length xs) :
    ∃ A' : Option Addr, (∀ W : World, (Instr.slice t (.slice A xs.length c) (some (.int .i64 (m : Int))) none none).run P W = .ok (.slice A' (xs.length - m) (c - m)) W) ∧ d.C w A' (xs.length - m) (xs.drop m) := by
  refine ⟨_, fun W => run_drop t e ht hi d.sz hsz A xs.length c m hm W, ?_⟩
  have := Kd.C_drop hC hm hc
  rwa [List.length_drop] at this

/-- A row of scalars that is a block's cells. -/
theorem C_block {α : Type} {enc : α → Value} {h1 : ∀ x, (enc x).oneCell' = true} {w : World} {g t : Nat} {cs : Array Value} (hg : w.heap[g]? = some (.cells cs t (0, 0))) (xs : List α) (hcs : cs.toList = xs.map enc) (hm : xs.length ≤ 9223372036854775807) :
    (Kd.scalar enc h1).C w (some ⟨g, 0, none⟩) xs.length xs := by
  refine ⟨rfl, hm, fun _ => ⟨_, rfl, fun j x hj => ⟨[enc x], rfl, rfl, fun i u hu => ?_⟩⟩⟩
  match i, hu with
  | 0, hu =>
    obtain rfl := Option.some.inj hu
    rw [add_plain, blk_cell hg, ← Array.getElem?_toList, hcs, List.getElem?_map, Nat.add_zero]
    simp [Kd.scalar, hj]
  | i + 1, hu => simp at hu

theorem R_empty_at {α : Type} {d : Kd α} {e g : Nat} {w : World} (hg : w.heap[g]? = some (.cells #[] e (0, 0))) : d.R e w 0 (fun _ => True) (.slice (some ⟨g, 0, none⟩) 0 0) [] :=
  ⟨fun _ _ => trivial, [], ⟨by simp, .inr ⟨g, 0, #[], rfl, Nat.zero_le _, hg, Nat.le_refl _, by simp [maxLen], by simp, by simp⟩⟩, Reps.none _ _⟩
/-- Two appends onto one row of the call's own leave the blocks from lo to hi alone. -/
theorem two_appends_keep {w6 W w7 w8 : World} {lo hi g : Nat} {v1 : Value} (hW : ∀ k, lo ≤ k → k < hi → W.heap[k]? = w6.heap[k]?) (hsz : hi ≤ W.heap.size) (hg1 : W.grownBy w7 (some g)) (hne : g < lo ∨ hi ≤ g)
    (hat : v1.ownBlock = some g ∨ ∃ b, v1.ownBlock = some b ∧ W.heap.size ≤ b) (hg2 : w7.grownBy w8 v1.ownBlock) : ∀ k, lo ≤ k → k < hi → w8.heap[k]? = w6.heap[k]? := by
  intro k h1 h2
  have hk : some k ≠ v1.ownBlock := by
    rcases hat with h | ⟨b, h, hb⟩ <;> rw [h] <;> intro he <;> injection he with he <;> omega
  exact (hg2.block k (Nat.lt_of_lt_of_le (Nat.lt_of_lt_of_le h2 hsz) hg1.size) hk).trans ((hg1.block k (Nat.lt_of_lt_of_le h2 hsz) (by intro he; injection he with he; omega)).trans (hW k h1 h2))
theorem two_appends_below {w W w7 w8 : World} {g : Nat} {v1 : Value} (hW : Below w.heap.size w W) (hg1 : W.grownBy w7 (some g)) (hne : w.heap.size ≤ g)
    (hat : v1.ownBlock = some g ∨ ∃ b, v1.ownBlock = some b ∧ W.heap.size ≤ b) (hg2 : w7.grownBy w8 v1.ownBlock) : Below w.heap.size w w8 := by
  have h1 : Below w.heap.size w w7 := hW.grown hg1 hW.size (fun k hk => by injection hk with hk; omega)
  exact h1.grown hg2 h1.size (fun k hk => by have := hW.size; rcases hat with h | ⟨b, h, hb⟩ <;> rw [h] at hk <;> injection hk with hk <;> omega)

/-- The slice (A, n) lies at the head of a block from base on whose first n cells are ints. -/
def IntsBlock (w : World) (base e : Nat) (A : Option Addr) (n : Nat) : Prop :=
  0 < n → ∃ g cells, A = some ⟨g, 0, none⟩ ∧ base ≤ g ∧ w.heap[g]? = some (.cells cells e (0, 0)) ∧ ∀ i, i < n → ∃ z, cells[i]? = some (.int .i64 z)
theorem intsBlock_of_R {w : World} {base e n c : Nat} {A : Option Addr} {ok : Nat → Prop} {xs : List Int} (h : (Kd.int .i64).R e w base ok (.slice A n c) xs) : IntsBlock w base e A n := by
  intro hn
  have h2 := Kd.R_reads' h
  obtain ⟨inner, ho⟩ := Kd.R_own h
  rcases ho.2 with ⟨h3, _⟩ | ⟨g, cap, cur, h3, hb, hg, _⟩
  · injection h3 with h3 h4 h5
    omega
  · injection h3 with h3 h4 h5
    subst h3
    refine ⟨g, cur, rfl, hb, hg, fun i hi => ?_⟩
    obtain ⟨ad, x, h6, _, h7⟩ := C_nth_scalar h2.2.2 i (by have := h2.1; omega)
    obtain rfl := Option.some.inj h6
    rw [add_plain, blk_cell hg] at h7
    exact ⟨x, h7⟩
theorem IntsBlock.set {w : World} {base e n g j : Nat} {cells : Array Value} (hg : w.heap[g]? = some (.cells cells e (0, 0))) (hb : base ≤ g) (hz : ∀ i, i < n → ∃ z, cells[i]? = some (.int .i64 z)) (x : Int) :
    IntsBlock (w.setCell ⟨g, j, none⟩ (.int .i64 x)) base e (some ⟨g, 0, none⟩) n := by
  intro _
  refine ⟨g, _, rfl, hb, blk_set hg j _, fun i hi => ?_⟩
  obtain ⟨z, hz⟩ := hz i hi
  have hi' := (Array.getElem?_eq_some_iff.1 hz).1
  by_cases hij : j = i
  · subst hij
    exact ⟨x, by simp [hi']⟩
  · exact ⟨z, by simp [hij, hz]⟩

end Go.Proofs.Ytehkhopkedbngaa
