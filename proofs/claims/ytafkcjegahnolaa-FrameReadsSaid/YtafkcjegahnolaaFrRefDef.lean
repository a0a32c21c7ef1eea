/- The document's sum as functions on lists of bits, and that it is Sum's. -/
import Derived.Test.YtafkcjegahnolaaFrSum
namespace Go.Proofs.Ytafkcjegahnolaa
open Go.RowKit Go.Proofs.YtafkcjegahnolaaW.PrintWords

/-- The first j bits of a byte, the lowest first. -/
def bitsN (n : Nat) (j : Nat) : List Bool := (List.range j).map (fun k => n / 2 ^ k % 2 == 1)
theorem bitsN_succ (n j : Nat) : bitsN n (j + 1) = bitsN n j ++ [n / 2 ^ j % 2 == 1] := by simp [bitsN, List.range_succ]
theorem bitsN_length (n j : Nat) : (bitsN n j).length = j := by simp [bitsN]
def bitsOf (l : List Int) : List Bool := l.flatMap (fun x => bitsN x.toNat 8)
theorem bitsOf_snoc (l : List Int) (x : Int) : bitsOf (l ++ [x]) = bitsOf l ++ bitsN x.toNat 8 := by simp [bitsOf]
theorem bitsOf_length (l : List Int) : (bitsOf l).length = 8 * l.length := by
  induction l with
  | nil => rfl
  | cons x r ih =>
    have : bitsOf (x :: r) = bitsN x.toNat 8 ++ bitsOf r := by simp [bitsOf]
    rw [this, List.length_append, ih, bitsN_length, List.length_cons]
    omega
theorem bitsOf_take_succ {l : List Int} {k n : Nat} (h : l[k]? = some (n : Int)) : bitsOf (l.take (k + 1)) = bitsOf (l.take k) ++ bitsN n 8 := by
  rw [List.take_add_one, h]
  exact bitsOf_snoc _ _
def flip1 (l : List Bool) (j : Nat) : List Bool := l.set j (!(l.getD j false))
theorem flip1_length (l : List Bool) (j : Nat) : (flip1 l j).length = l.length := by simp [flip1]
def flipN (l : List Bool) : Nat → List Bool
  | 0 => l
  | j + 1 => flip1 (flipN l j) j
theorem flipN_length (l : List Bool) (j : Nat) : (flipN l j).length = l.length := by
  induction j with
  | zero => rfl
  | succ j ih => rw [flipN, flip1_length, ih]
def pows : List Nat := [26, 23, 22, 16, 12, 11, 10, 8, 7, 5, 4, 2, 1, 0]
/-- The first k of the powers are turned. -/
def flipP (l : List Bool) (i : Nat) : Nat → List Bool
  | 0 => l
  | k + 1 => flip1 (flipP l i k) (i + 32 - pows.getD k 0)
theorem flipP_length (l : List Bool) (i k : Nat) : (flipP l i k).length = l.length := by
  induction k with
  | zero => rfl
  | succ j ih => rw [flipP, flip1_length, ih]
def divide (l : List Bool) : Nat → List Bool
  | 0 => l
  | i + 1 => if (divide l i).getD i false then flipP (divide l i) i 14 else divide l i
theorem divide_length (l : List Bool) (j : Nat) : (divide l j).length = l.length := by
  induction j with
  | zero => rfl
  | succ j ih =>
    rw [divide]
    split
    · rw [flipP_length, ih]
    · exact ih
def row0 (l : List Int) : List Bool := flipN (bitsOf l ++ List.replicate 32 false) 32
def rest (l : List Int) : List Bool := divide (row0 l) (8 * l.length)
theorem row0_length (l : List Int) : (row0 l).length = 8 * l.length + 32 := by simp [row0, flipN_length, bitsOf_length]
theorem rest_length (l : List Int) : (rest l).length = 8 * l.length + 32 := by rw [rest, divide_length, row0_length]
/-- The last s bits, turned, as a number. -/
def readN (l : List Bool) : Nat → Nat
  | 0 => 0
  | s + 1 => readN l s * 2 + (if l.getD (l.length - 1 - s) false then 0 else 1)
def refSum (l : List Int) : Nat := readN (rest l) 32
theorem readN_lt (l : List Bool) (s : Nat) : readN l s < 2 ^ s := by
  induction s with
  | zero => simp [readN]
  | succ s ih => rw [readN, Nat.pow_succ]; split <;> omega

theorem R_at0 {α : Type} {d : Kd α} {e : Nat} {w : World} {base : Nat} {ok : Nat → Prop} {v : Value} {xs : List α} (h : d.R e w base ok v xs) (hn : 0 < xs.length) (hd : 0 < d.sz) :
    ∃ g cap, v = .slice (some ⟨g, 0, none⟩) xs.length cap ∧ ok g ∧ base ≤ g ∧ g < w.heap.size := by
  have hb := Kd.R_bound h
  obtain ⟨inner, ho⟩ := Kd.R_own h
  rcases ho.2 with ⟨h', h2⟩ | ⟨g, cap, cur, h', _⟩
  · exfalso
    obtain ⟨A, c, he, hl, hC⟩ := Kd.R_reads h
    rw [he] at h'
    injection h' with h1 h2
    omega
  · have := hb.1 g (by rw [h']; simp [Value.ownBlock])
    exact ⟨g, cap, h', this.1, this.2.1, this.2.2.1⟩
end Go.Proofs.Ytafkcjegahnolaa
