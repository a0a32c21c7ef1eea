/- frame.table by its contract: the sixteen numbers that half a byte does to a sum. -/
import Derived.Test.YtafkcjegahnolaaSlByte
import Derived.Laws.BitsAllLaws
namespace Go.Proofs.Ytafkcjegahnolaa
open Go.RowKit Go.Proofs.YtafkcjegahnolaaW.PrintWords

/-- One bit's step of the register. -/
def adv1 (c : Nat) : Nat := (c / 2) ^^^ (if c % 2 = 1 then 3988292384 else 0)
/-- So many steps. -/
def adv : Nat → Nat → Nat
  | 0, c => c
  | n + 1, c => adv1 (adv n c)
theorem adv1_lt {c : Nat} (h : c < 4294967296) : adv1 c < 4294967296 := by
  unfold adv1
  exact Nat.xor_lt_two_pow (n := 32) (by omega) (by split <;> omega)
theorem adv_lt {n c : Nat} (h : c < 4294967296) : adv n c < 4294967296 := by
  induction n with
  | zero => exact h
  | succ n ih => exact adv1_lt ih
theorem adv1_bits {m : Nat} (hm : m < 4294967296) : bits .xor .u32 ((m : Int) / 2) (bits .and .u32 3988292384 (-bits .and .u32 (m : Int) 1 % 4294967296)) = ((adv1 m : Nat) : Int) := by
  have h1 : bits .and .u32 (m : Int) 1 = ((m % 2 : Nat) : Int) := by
    have := u32_and_nat m 1 hm (by omega)
    rw [nat_mask1] at this
    exact this
  rw [h1]
  have h3 : ((m : Int) / 2) = ((m / 2 : Nat) : Int) := by omega
  rw [h3]
  unfold adv1
  by_cases h : m % 2 = 1
  · rw [h, if_pos rfl]
    have h2 : bits .and .u32 3988292384 (-((1 : Nat) : Int) % 4294967296) = ((3988292384 : Nat) : Int) := by decide
    rw [h2]
    exact u32_xor_nat (m / 2) 3988292384 (by omega) (by omega)
  · have h0 : m % 2 = 0 := by omega
    rw [h0, if_neg (by omega)]
    have h2 : bits .and .u32 3988292384 (-((0 : Nat) : Int) % 4294967296) = ((0 : Nat) : Int) := by decide
    rw [h2]
    exact u32_xor_nat (m / 2) 0 (by omega) (by omega)

/-- The tables's array while it is filled: the first k are as they shall be. -/
def tabCell (k j : Nat) : Value := .int .u32 (if j < k then ((adv 4 j : Nat) : Int) else 0)
structure TabAt (w wr : World) (k : Nat) : Prop where
  size : wr.heap.size = w.heap.size + 2
  below : Below w.heap.size w wr
  out : ∀ j, j < 16 → wr.cell? ⟨w.heap.size, j, none⟩ = some (.int .u32 0)
  cells : ∀ j, j < 16 → wr.cell? ⟨w.heap.size + 1, j, none⟩ = some (tabCell k j)
  frz : ∀ j, wr.frozen? ⟨w.heap.size, j, none⟩ = false
  frz1 : ∀ j, wr.frozen? ⟨w.heap.size + 1, j, none⟩ = false
theorem TabAt.next {w wr : World} {k : Nat} (h : TabAt w wr k) (hk : k < 16) : TabAt w (wr.setCell ⟨w.heap.size + 1, k, none⟩ (.int .u32 ((adv 4 k : Nat) : Int))) (k + 1) := by
  refine ⟨by rw [← h.size]; simp [World.setCell], ?_, ?_, ?_, fun j => by rw [World.frozen?_setCell]; exact h.frz j, fun j => by rw [World.frozen?_setCell]; exact h.frz1 j⟩
  · exact (Keep.of_below h.below (fun k => w.heap.size ≤ k)).setCell (Or.inr (by simp)) _ |> fun h => ⟨h.os, h.tape, h.output, h.size, fun k hk => h.block k hk (by omega)⟩
  · intro j hj
    rw [World.cell?_setCell_other _ _ _ _ (by simp)]
    exact h.out j hj
  · intro j hj
    by_cases hjk : j = k
    · subst hjk
      rw [World.cell?_setCell_same _ _ _ (h.cells j hj)]
      simp [tabCell]
    · rw [World.cell?_setCell_other _ _ _ _ (fun e => hjk (congrArg Addr.off e).symm), h.cells j hj]
      have : (j < k) ↔ (j < k + 1) := by omega
      simp [tabCell, this]

theorem below_setCells {B b : Nat} {w0 : World} (hb : B ≤ b) : ∀ (vs : List Value) (o : Nat) (w : World), Below B w0 w → Below B w0 (w.setCells b o vs)
  | [], _, _, h => h
  | v :: r, o, w, h => below_setCells hb r (o + 1) _ (h.setCell hb v)
/-- What table answers. -/
def tabVal : Value := .agg #[.int .u32 (adv 4 0 : Nat), .int .u32 (adv 4 1 : Nat), .int .u32 (adv 4 2 : Nat), .int .u32 (adv 4 3 : Nat), .int .u32 (adv 4 4 : Nat), .int .u32 (adv 4 5 : Nat), .int .u32 (adv 4 6 : Nat), .int .u32 (adv 4 7 : Nat), .int .u32 (adv 4 8 : Nat), .int .u32 (adv 4 9 : Nat), .int .u32 (adv 4 10 : Nat), .int .u32 (adv 4 11 : Nat), .int .u32 (adv 4 12 : Nat), .int .u32 (adv 4 13 : Nat), .int .u32 (adv 4 14 : Nat), .int .u32 (adv 4 15 : Nat)]
def zeros16 : Array Value := #[.int .u32 0, .int .u32 0, .int .u32 0, .int .u32 0, .int .u32 0, .int .u32 0, .int .u32 0, .int .u32 0, .int .u32 0, .int .u32 0, .int .u32 0, .int .u32 0, .int .u32 0, .int .u32 0, .int .u32 0, .int .u32 0]
theorem TabAt.first (w : World) : TabAt w ((w.alloc (.cells zeros16 43)).alloc (.cells zeros16 43)) 0 := by
  have h0 : ∀ j, j < 16 → zeros16[j]? = some (.int .u32 0) := by
    intro j hj
    have : j = 0 ∨ j = 1 ∨ j = 2 ∨ j = 3 ∨ j = 4 ∨ j = 5 ∨ j = 6 ∨ j = 7 ∨ j = 8 ∨ j = 9 ∨ j = 10 ∨ j = 11 ∨ j = 12 ∨ j = 13 ∨ j = 14 ∨ j = 15 := by omega
    rcases this with e | e | e | e | e | e | e | e | e | e | e | e | e | e | e | e <;> subst e <;> rfl
  have hf1 : ∀ (W : World) (n j : Nat), n = W.heap.size → (W.alloc (.cells zeros16 43)).frozen? ⟨n, j, none⟩ = false := by
    intro W n j e
    subst e
    simp [World.frozen?, World.alloc, -World.alloc_eq]
  refine ⟨by simp, ((Below.refl _ w).alloc (by simp) _).alloc (by simp) _, ?_, ?_, ?_, fun j => hf1 _ _ j (by simp)⟩
  · intro j hj
    rw [World.cell?_alloc_past _ _ _ (by simp), World.cell?_alloc_at _ _ _ _ rfl, h0 j hj]
  · intro j hj
    rw [World.cell?_alloc_at _ _ _ _ (by simp), h0 j hj]
    simp [tabCell]
  · intro j
    rw [frozen?_alloc_cells]
    exact hf1 w _ j rfl

set_option maxHeartbeats 800000 in
theorem table_any (w : World) : Calls Try.prog 20 #[] w fun e w' => e = .returned tabVal ∧ Below w.heap.size w w' := by
  go_enter Try.func20, Try.ntmps20
  go_wp2_with fail
  go_loopw [2, 3, 4] (fun _ _ i wr => ∃ k : Nat, k ≤ 16 ∧ i = .int .i64 k ∧ TabAt w wr k) (fun _ _ i _ => 16 - (intOf i).toNat)
  case atStart => exact ⟨0, by omega, rfl, TabAt.first w⟩
  case round =>
    obtain ⟨k, hk, rfl, hT⟩ := hrel
    have HT := Lib.hid hT
    clear hT
    by_cases hlt : k < 16
    · go_wp2_with fail
      go_loopw [3, 9] (fun c i wq => ∃ j : Nat, j ≤ 4 ∧ i = .int .i64 j ∧ c = .int .u32 (adv j k) ∧ wq = wr) (fun _ i _ => 4 - (intOf i).toNat)
      case atStart => exact ⟨0, by omega, rfl, rfl, rfl⟩
      case round =>
        obtain ⟨j, hj, rfl, rfl, rfl⟩ := hrel
        have hm : adv j k < 4294967296 := adv_lt (by omega)
        have hs := adv1_bits hm
        generalize hmm : adv j k = m at *
        have HM := Lib.hid hmm
        clear hmm
        by_cases hlj : j < 4
        · go_wp2_with fail
          refine ⟨⟨j + 1, by omega, by simp, ?_, by trivial⟩, by simp [intOf]; omega⟩
          rw [adv, HM.out]
        · have : j = 4 := by omega
          subst this
          have hc := HT.out.cells k hlt
          have hf := HT.out.frz1 k
          go_wp2_with fail
          refine ⟨⟨k + 1, by omega, by simp, ?_⟩, by simp [intOf]; omega⟩
          have := HT.out.next hlt
          rw [HM.out] at this
          exact this
    · have : k = 16 := by omega
      subst this
      have c0 : wr.cell? ⟨w.heap.size + 1, 0, none⟩ = some (.int .u32 (adv 4 0 : Nat)) := HT.out.cells 0 (by omega)
      have c1 : wr.cell? ⟨w.heap.size + 1, 1, none⟩ = some (.int .u32 (adv 4 1 : Nat)) := HT.out.cells 1 (by omega)
      have c2 : wr.cell? ⟨w.heap.size + 1, 2, none⟩ = some (.int .u32 (adv 4 2 : Nat)) := HT.out.cells 2 (by omega)
      have c3 : wr.cell? ⟨w.heap.size + 1, 3, none⟩ = some (.int .u32 (adv 4 3 : Nat)) := HT.out.cells 3 (by omega)
      have c4 : wr.cell? ⟨w.heap.size + 1, 4, none⟩ = some (.int .u32 (adv 4 4 : Nat)) := HT.out.cells 4 (by omega)
      have c5 : wr.cell? ⟨w.heap.size + 1, 5, none⟩ = some (.int .u32 (adv 4 5 : Nat)) := HT.out.cells 5 (by omega)
      have c6 : wr.cell? ⟨w.heap.size + 1, 6, none⟩ = some (.int .u32 (adv 4 6 : Nat)) := HT.out.cells 6 (by omega)
      have c7 : wr.cell? ⟨w.heap.size + 1, 7, none⟩ = some (.int .u32 (adv 4 7 : Nat)) := HT.out.cells 7 (by omega)
      have c8 : wr.cell? ⟨w.heap.size + 1, 8, none⟩ = some (.int .u32 (adv 4 8 : Nat)) := HT.out.cells 8 (by omega)
      have c9 : wr.cell? ⟨w.heap.size + 1, 9, none⟩ = some (.int .u32 (adv 4 9 : Nat)) := HT.out.cells 9 (by omega)
      have c10 : wr.cell? ⟨w.heap.size + 1, 10, none⟩ = some (.int .u32 (adv 4 10 : Nat)) := HT.out.cells 10 (by omega)
      have c11 : wr.cell? ⟨w.heap.size + 1, 11, none⟩ = some (.int .u32 (adv 4 11 : Nat)) := HT.out.cells 11 (by omega)
      have c12 : wr.cell? ⟨w.heap.size + 1, 12, none⟩ = some (.int .u32 (adv 4 12 : Nat)) := HT.out.cells 12 (by omega)
      have c13 : wr.cell? ⟨w.heap.size + 1, 13, none⟩ = some (.int .u32 (adv 4 13 : Nat)) := HT.out.cells 13 (by omega)
      have c14 : wr.cell? ⟨w.heap.size + 1, 14, none⟩ = some (.int .u32 (adv 4 14 : Nat)) := HT.out.cells 14 (by omega)
      have c15 : wr.cell? ⟨w.heap.size + 1, 15, none⟩ = some (.int .u32 (adv 4 15 : Nat)) := HT.out.cells 15 (by omega)
      have o0 := HT.out.out 0 (by omega)
      have o1 := HT.out.out 1 (by omega)
      have o2 := HT.out.out 2 (by omega)
      have o3 := HT.out.out 3 (by omega)
      have o4 := HT.out.out 4 (by omega)
      have o5 := HT.out.out 5 (by omega)
      have o6 := HT.out.out 6 (by omega)
      have o7 := HT.out.out 7 (by omega)
      have o8 := HT.out.out 8 (by omega)
      have o9 := HT.out.out 9 (by omega)
      have o10 := HT.out.out 10 (by omega)
      have o11 := HT.out.out 11 (by omega)
      have o12 := HT.out.out 12 (by omega)
      have o13 := HT.out.out 13 (by omega)
      have o14 := HT.out.out 14 (by omega)
      have o15 := HT.out.out 15 (by omega)
      have hf := HT.out.frz
      go_wp2_with fail
      refine bodyPost_ret (w := wr.setCells w.heap.size 0 [.int .u32 (adv 4 0 : Nat), .int .u32 (adv 4 1 : Nat), .int .u32 (adv 4 2 : Nat), .int .u32 (adv 4 3 : Nat), .int .u32 (adv 4 4 : Nat), .int .u32 (adv 4 5 : Nat), .int .u32 (adv 4 6 : Nat), .int .u32 (adv 4 7 : Nat), .int .u32 (adv 4 8 : Nat), .int .u32 (adv 4 9 : Nat), .int .u32 (adv 4 10 : Nat), .int .u32 (adv 4 11 : Nat), .int .u32 (adv 4 12 : Nat), .int .u32 (adv 4 13 : Nat), .int .u32 (adv 4 14 : Nat), .int .u32 (adv 4 15 : Nat)]) (v := tabVal) ?_ rfl ⟨rfl, ?_⟩
      · have hin := World.cell?_setCells_in w.heap.size [.int .u32 (adv 4 0 : Nat), .int .u32 (adv 4 1 : Nat), .int .u32 (adv 4 2 : Nat), .int .u32 (adv 4 3 : Nat), .int .u32 (adv 4 4 : Nat), .int .u32 (adv 4 5 : Nat), .int .u32 (adv 4 6 : Nat), .int .u32 (adv 4 7 : Nat), .int .u32 (adv 4 8 : Nat), .int .u32 (adv 4 9 : Nat), .int .u32 (adv 4 10 : Nat), .int .u32 (adv 4 11 : Nat), .int .u32 (adv 4 12 : Nat), .int .u32 (adv 4 13 : Nat), .int .u32 (adv 4 14 : Nat), .int .u32 (adv 4 15 : Nat)] 0 wr (fun j hj => by rw [Nat.zero_add, HT.out.out j hj]; rfl)
        generalize wr.setCells w.heap.size 0 _ = W at *
        clear c0 c1 c2 c3 c4 c5 c6 c7 c8 c9 c10 c11 c12 c13 c14 c15
        clear o0 o1 o2 o3 o4 o5 o6 o7 o8 o9 o10 o11 o12 o13 o14 o15
        have c0 : W.cell? ⟨w.heap.size, 0, none⟩ = some (.int .u32 (adv 4 0 : Nat)) := hin 0 (by decide)
        have c1 : W.cell? ⟨w.heap.size, 1, none⟩ = some (.int .u32 (adv 4 1 : Nat)) := hin 1 (by decide)
        have c2 : W.cell? ⟨w.heap.size, 2, none⟩ = some (.int .u32 (adv 4 2 : Nat)) := hin 2 (by decide)
        have c3 : W.cell? ⟨w.heap.size, 3, none⟩ = some (.int .u32 (adv 4 3 : Nat)) := hin 3 (by decide)
        have c4 : W.cell? ⟨w.heap.size, 4, none⟩ = some (.int .u32 (adv 4 4 : Nat)) := hin 4 (by decide)
        have c5 : W.cell? ⟨w.heap.size, 5, none⟩ = some (.int .u32 (adv 4 5 : Nat)) := hin 5 (by decide)
        have c6 : W.cell? ⟨w.heap.size, 6, none⟩ = some (.int .u32 (adv 4 6 : Nat)) := hin 6 (by decide)
        have c7 : W.cell? ⟨w.heap.size, 7, none⟩ = some (.int .u32 (adv 4 7 : Nat)) := hin 7 (by decide)
        have c8 : W.cell? ⟨w.heap.size, 8, none⟩ = some (.int .u32 (adv 4 8 : Nat)) := hin 8 (by decide)
        have c9 : W.cell? ⟨w.heap.size, 9, none⟩ = some (.int .u32 (adv 4 9 : Nat)) := hin 9 (by decide)
        have c10 : W.cell? ⟨w.heap.size, 10, none⟩ = some (.int .u32 (adv 4 10 : Nat)) := hin 10 (by decide)
        have c11 : W.cell? ⟨w.heap.size, 11, none⟩ = some (.int .u32 (adv 4 11 : Nat)) := hin 11 (by decide)
        have c12 : W.cell? ⟨w.heap.size, 12, none⟩ = some (.int .u32 (adv 4 12 : Nat)) := hin 12 (by decide)
        have c13 : W.cell? ⟨w.heap.size, 13, none⟩ = some (.int .u32 (adv 4 13 : Nat)) := hin 13 (by decide)
        have c14 : W.cell? ⟨w.heap.size, 14, none⟩ = some (.int .u32 (adv 4 14 : Nat)) := hin 14 (by decide)
        have c15 : W.cell? ⟨w.heap.size, 15, none⟩ = some (.int .u32 (adv 4 15 : Nat)) := hin 15 (by decide)
        clear hin
        simp [results, Try.results20, go_sem, c0, c1, c2, c3, c4, c5, c6, c7, c8, c9, c10, c11, c12, c13, c14, c15, tabVal]
      · exact below_setCells (Nat.le_refl _) _ _ _ HT.out.below

end Go.Proofs.Ytafkcjegahnolaa
