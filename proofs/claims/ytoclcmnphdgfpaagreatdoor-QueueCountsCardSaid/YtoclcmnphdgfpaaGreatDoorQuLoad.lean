/- A call's cells, and a box's, by name. -/
import Derived.Test.YtoclcmnphdgfpaaGreatDoorG13
import Derived.Test.YtoclcmnphdgfpaaGreatDoorG8
set_option linter.unusedVariables false
set_option linter.unusedSimpArgs false
namespace Go.Proofs.YtoclcmnphdgfpaaGreatDoor
open Go.RowKit Go.Proofs.YtoclcmnphdgfpaaGreatDoorW.PrintWords
theorem box7 {w : World} {g : Nat} {v r d i m : Int} {s : ByteArray} {f : Bool} (h : w.heap[g]? = some (.cells #[.int .i64 v, .int .i64 r, .int .i64 d, .int .i64 i, .int .i64 m, .string s, .bool f] 23 (0, 0))) :
    w.cell? ⟨g, 0, none⟩ = some (.int .i64 v) ∧ w.cell? ⟨g, 1, none⟩ = some (.int .i64 r) ∧ w.cell? ⟨g, 2, none⟩ = some (.int .i64 d) ∧ w.cell? ⟨g, 3, none⟩ = some (.int .i64 i) ∧ w.cell? ⟨g, 4, none⟩ = some (.int .i64 m) ∧ w.cell? ⟨g, 5, none⟩ = some (.string s) ∧ w.cell? ⟨g, 6, none⟩ = some (.bool f) :=
  cells7 (a := ⟨v, r, d, i, m, s, f⟩) (l := []) h
theorem QA.mk_val (v r d i m : Int) (s : ByteArray) (f : Bool) : QA.val ⟨v, r, d, i, m, s, f⟩ = .agg #[.int .i64 v, .int .i64 r, .int .i64 d, .int .i64 i, .int .i64 m, .string s, .bool f] := rfl
theorem few_len {l : List QOp} (h : fewB l = true) : l.length ≤ 60 := by
  unfold fewB at h
  rw [Bool.and_eq_true, decide_eq_true_iff] at h
  exact h.1
theorem reach_max {n : Nat} (h : n ≤ 140737488351232) : n ≤ maxLen := Nat.le_trans h (by decide)
/-- A call's cells, by name. -/
theorem C_nth_call {w : World} {A : Option Addr} {n : Nat} {l : List QOp} (h : KQOp.C w A n l) (hok : ∀ x ∈ l, opWf x) (k : Nat) (hk : k < n) :
    ∃ (ad : Addr) (kind num num2 : Int) (body group key rec : ByteArray) (qa : QA), A = some ad ∧ group.size ≤ maxLen ∧ key.size ≤ maxLen ∧
      w.cell? (ad.add (k * 14)) = some (.int .i64 kind) ∧ w.cell? ⟨(ad.add (k * 14)).block, (ad.add (k * 14)).off + 1, none⟩ = some (.int .i64 num) ∧ w.cell? ⟨(ad.add (k * 14)).block, (ad.add (k * 14)).off + 2, none⟩ = some (.int .i64 num2) ∧ w.cell? ⟨(ad.add (k * 14)).block, (ad.add (k * 14)).off + 3, none⟩ = some (.string body) ∧ w.cell? ⟨(ad.add (k * 14)).block, (ad.add (k * 14)).off + 4, none⟩ = some (.string group) ∧ w.cell? ⟨(ad.add (k * 14)).block, (ad.add (k * 14)).off + 5, none⟩ = some (.string key) ∧ w.cell? ⟨(ad.add (k * 14)).block, (ad.add (k * 14)).off + 6, none⟩ = some (.string rec) ∧ w.cell? ⟨(ad.add (k * 14)).block, (ad.add (k * 14)).off + 7, none⟩ = some (.int .i64 qa.vis) ∧ w.cell? ⟨(ad.add (k * 14)).block, (ad.add (k * 14)).off + 8, none⟩ = some (.int .i64 qa.ret) ∧ w.cell? ⟨(ad.add (k * 14)).block, (ad.add (k * 14)).off + 9, none⟩ = some (.int .i64 qa.del) ∧ w.cell? ⟨(ad.add (k * 14)).block, (ad.add (k * 14)).off + 10, none⟩ = some (.int .i64 qa.win) ∧ w.cell? ⟨(ad.add (k * 14)).block, (ad.add (k * 14)).off + 11, none⟩ = some (.int .i64 qa.max) ∧ w.cell? ⟨(ad.add (k * 14)).block, (ad.add (k * 14)).off + 12, none⟩ = some (.string qa.dead) ∧ w.cell? ⟨(ad.add (k * 14)).block, (ad.add (k * 14)).off + 13, none⟩ = some (.bool qa.fifo) := by
  obtain ⟨ad, x, hA, hx, e0, he⟩ := C_nth_qop h k hk
  obtain ⟨z1, z2, z3, s3, s4, s5, s6, za⟩ := x
  have hw := hok _ (List.mem_of_getElem? hx)
  unfold opWf at hw
  exact ⟨ad, z1, z2, z3, s3, s4, s5, s6, QA.of za, hA, reach_max hw.2.1, reach_max hw.2.2.1, e0, he 1 _ (by decide) rfl, he 2 _ (by decide) rfl, he 3 _ (by decide) rfl, he 4 _ (by decide) rfl, he 5 _ (by decide) rfl, he 6 _ (by decide) rfl, he 7 _ (by decide) rfl, he 8 _ (by decide) rfl, he 9 _ (by decide) rfl, he 10 _ (by decide) rfl, he 11 _ (by decide) rfl, he 12 _ (by decide) rfl, he 13 _ (by decide) rfl⟩
end Go.Proofs.YtoclcmnphdgfpaaGreatDoor
