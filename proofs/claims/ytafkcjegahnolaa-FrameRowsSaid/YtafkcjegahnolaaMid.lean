/- A cut out of the middle of a row. -/
import Derived.Test.YtafkcjegahnolaaBase
namespace Go.Proofs.Ytafkcjegahnolaa
open Go.RowKit Go.Proofs.YtafkcjegahnolaaW.PrintWords
theorem run_mid {P : Program} (t e : TypeId) {i : TypeInfo} (ht : P.underlying t = some (.slice e)) (hi : P.info? e = some i) (size : Nat) (hsz : i.size = size) (A : Option Addr) (n c lo h : Nat) (h1 : lo ≤ h) (h2 : h ≤ n) (h3 : n ≤ c) (W : World) :
    (Instr.slice t (.slice A n c) (some (.int .i64 (lo : Int))) (some (.int .i64 (h : Int))) none).run P W = .ok (.slice (if c = lo then A else A.map (·.add (lo * size))) (h - lo) (c - lo)) W := by
  have hel : P.elem t = e := by simp [Program.elem, ht]
  have hu : P.underlying t = some (.slice (P.elem t)) := by rw [hel]; exact ht
  rw [run_slice_lh W t A n c hu .i64 .i64 (lo : Int) (h : Int) (by omega) (by omega) (by omega), hel]
  have : ((h : Int) - (lo : Int)).toNat = h - lo := by omega
  simp [sizeOf, typeInfo, hi, hsz, sliced, Result.andThen, this]
/-- The row from place lo up to h: the value of the cut, and that it reads so. -/
theorem mid_row {α : Type} {d : Kd α} {P : Program} (t e : TypeId) {i : TypeInfo} (ht : P.underlying t = some (.slice e)) (hi : P.info? e = some i) (hsz : i.size = d.sz) (A : Option Addr) (c lo h : Nat) (xs : List α) (h1 : lo ≤ h) (h2 : h ≤ xs.length) (hc : xs.length ≤ c) {w : World} (hC : d.C w A xs.length xs) :
    ∃ A' : Option Addr, (∀ W : World, (Instr.slice t (.slice A xs.length c) (some (.int .i64 (lo : Int))) (some (.int .i64 (h : Int))) none).run P W = .ok (.slice A' (h - lo) (c - lo)) W) ∧ d.C w A' (h - lo) ((xs.drop lo).take (h - lo)) := by
  refine ⟨_, fun W => run_mid t e ht hi d.sz hsz A xs.length c lo h h1 h2 hc W, ?_⟩
  have := Kd.C_take (Kd.C_drop hC (by omega : lo ≤ xs.length) hc) (m := h - lo) (by rw [List.length_drop]; omega)
  rwa [List.length_take, List.length_drop, Nat.min_eq_left (by omega)] at this
end Go.Proofs.Ytafkcjegahnolaa
