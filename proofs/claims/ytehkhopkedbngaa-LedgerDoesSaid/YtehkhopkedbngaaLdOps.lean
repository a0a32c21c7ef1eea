/- daisychainlaw07: awake; the calls of layer 7's statements, as they lie in memory. -/
import Derived.Test.YtehkhopkedbngaaLdHpMoreI
import Derived.Test.YtehkhopkedbngaaOpen
namespace Go.Proofs.Ytehkhopkedbngaa
open Go.RowKit Go.Proofs.YtehkhopkedbngaaW.PrintWords

/-- A call: Kind, V, Until, Key. -/
abbrev Op := Int × (Int × (Int × ByteArray))
def KOp : Kd Op := Kd.pair (Kd.int .i64) (Kd.pair (Kd.int .i64) (Kd.pair (Kd.int .i64) Kd.string))
theorem C_nth_op {w : World} {A : Option Addr} {n : Nat} {xs : List Op} (h : KOp.C w A n xs) (k : Nat) (hk : k < n) :
    ∃ ad kind v u key, A = some ad ∧ xs[k]? = some (kind, (v, (u, key))) ∧ w.cell? (ad.add (k * 4)) = some (.int .i64 kind) ∧ w.cell? ⟨(ad.add (k * 4)).block, (ad.add (k * 4)).off + 1, none⟩ = some (.int .i64 v) ∧ w.cell? ⟨(ad.add (k * 4)).block, (ad.add (k * 4)).off + 2, none⟩ = some (.int .i64 u) ∧ w.cell? ⟨(ad.add (k * 4)).block, (ad.add (k * 4)).off + 3, none⟩ = some (.string key) := by
  obtain ⟨ad, ⟨kind, v, u, key⟩, c, hA, hx, _, ⟨c0, c1, rfl, h0, ⟨c2, c3, rfl, h2, ⟨c4, c5, rfl, h4, h5⟩⟩⟩, h3⟩ := C_nth h k hk
  have h0 : c0 = [.int .i64 kind] := h0
  have h2 : c2 = [.int .i64 v] := h2
  have h4 : c4 = [.int .i64 u] := h4
  have h5 : c5 = [.string key] := h5
  subst h0 h2 h4 h5
  refine ⟨ad, kind, v, u, key, hA, hx, ?_, ?_, ?_, ?_⟩
  · have := h3 0 _ rfl; exact this
  · have := h3 1 _ rfl; rw [← add_field ad _ 1 (by omega)]; exact this
  · have := h3 2 _ rfl; rw [← add_field ad _ 2 (by omega)]; exact this
  · have := h3 3 _ rfl; rw [← add_field ad _ 3 (by omega)]; exact this

set_option maxHeartbeats 800000 in
set_option maxRecDepth 100000 in
theorem awake_any (w : World) : Calls Try.prog 8 #[] w fun e w' => e = .returned (.bool true) ∧ Below w.heap.size w w' := by
  go_enter Try.func8, Try.ntmps8
  go_wp2_with fail
  refine Calls.mono ((Hp.nil w).ldINew 2) ?_
  rintro e w1 ⟨lb, rfl, hP1⟩
  rw [show max (2 : Int) 0 = 2 by decide] at hP1
  have HP1 := Lib.hid hP1
  clear hP1
  go_wp2_with fail
  refine Calls.mono (HP1.out.ldIPut ⟨#[97]⟩ 1 5 (by decide) (by decide)) ?_
  rintro e w2 ⟨rfl, hP2⟩
  rw [show mayPut 2 ([] : List (Ent Int)) ⟨#[97]⟩ = true from rfl, if_pos rfl] at hP2
  rw [show mayPut 2 ([] : List (Ent Int)) ⟨#[97]⟩ = true from rfl, if_pos rfl]
  rw [show ldPut ([] : List (Ent Int)) ⟨#[97]⟩ (1, 5) = [(⟨#[97]⟩, (1, 5))] from rfl] at hP2
  have HP2 := Lib.hid hP2
  clear hP2
  go_wp2_with fail
  refine Calls.mono (HP2.out.ldIPut ⟨#[98]⟩ 2 3 (by decide) (by decide)) ?_
  rintro e w3 ⟨rfl, hP3⟩
  rw [show mayPut 2 [((⟨#[97]⟩ : ByteArray), ((1 : Int), (5 : Int)))] ⟨#[98]⟩ = true by decide, if_pos rfl] at hP3
  rw [show mayPut 2 [((⟨#[97]⟩ : ByteArray), ((1 : Int), (5 : Int)))] ⟨#[98]⟩ = true by decide, if_pos rfl]
  rw [show ldPut [((⟨#[97]⟩ : ByteArray), ((1 : Int), (5 : Int)))] ⟨#[98]⟩ (2, 3) = [(⟨#[97]⟩, (1, 5)), (⟨#[98]⟩, (2, 3))] by decide] at hP3
  have HP3 := Lib.hid hP3
  clear hP3
  go_wp2_with fail
  refine Calls.mono (HP3.out.ldIPut ⟨#[99]⟩ 3 9 (by decide) (by decide)) ?_
  rintro e w4 ⟨rfl, hP4⟩
  rw [show mayPut 2 [((⟨#[97]⟩ : ByteArray), ((1 : Int), (5 : Int))), ((⟨#[98]⟩ : ByteArray), ((2 : Int), (3 : Int)))] ⟨#[99]⟩ = false by decide, if_neg (by decide)] at hP4
  rw [show mayPut 2 [((⟨#[97]⟩ : ByteArray), ((1 : Int), (5 : Int))), ((⟨#[98]⟩ : ByteArray), ((2 : Int), (3 : Int)))] ⟨#[99]⟩ = false by decide, if_neg (by decide)]
  have HP4 := Lib.hid hP4
  clear hP4
  go_wp2_with fail
  refine Calls.mono (HP4.out.ldISweep 4 (by decide)) ?_
  rintro e w5 ⟨A, c, rfl, hP5⟩
  have hpast : past [((⟨#[97]⟩ : ByteArray), ((1 : Int), (5 : Int))), ((⟨#[98]⟩ : ByteArray), ((2 : Int), (3 : Int)))] 4 = [(⟨#[98]⟩, (2, 3))] := by
    unfold past
    rw [show [((⟨#[97]⟩ : ByteArray), ((1 : Int), (5 : Int))), ((⟨#[98]⟩ : ByteArray), ((2 : Int), (3 : Int)))].filter (fun p => decide (p.2.2 ≤ 4)) = [(⟨#[98]⟩, (2, 3))] from rfl]
    exact List.mergeSort_singleton _
  rw [hpast, show left [((⟨#[97]⟩ : ByteArray), ((1 : Int), (5 : Int))), ((⟨#[98]⟩ : ByteArray), ((2 : Int), (3 : Int)))] 4 = [(⟨#[97]⟩, (1, 5))] from rfl] at hP5
  rw [hpast]
  have HP5 := Lib.hid hP5.swap
  clear hP5 hpast
  go_wp2_with fail
  refine Calls.mono (HP5.out.ldIGetC ⟨#[97]⟩ (by decide)) ?_
  rintro e w6 ⟨rfl, hP6⟩
  rw [show ldIGet [((⟨#[97]⟩ : ByteArray), ((1 : Int), (5 : Int)))] ⟨#[97]⟩ = ((1, 5), true) from rfl]
  have hC := (Kd.R_reads' hP6.tail.head).2.2
  obtain ⟨ad, x0, rfl, hx0, d0⟩ := C_nth_scalar hC 0 (by decide)
  obtain rfl : (⟨#[98]⟩ : ByteArray) = x0 := by simpa using hx0
  simp [Addr.add] at d0
  clear hC hx0
  have HP6 := Lib.hid hP6
  clear hP6
  go_wp2_with fail
  refine Calls.mono HP6.out.ldILen ?_
  rintro e w7 ⟨rfl, rfl⟩
  go_wp2_with fail
  go_ret
  exact ⟨rfl, HP6.out.belowW⟩
/-- Where there is room, all may be put. -/
theorem mayPut_room {α : Type} {r : List (Ent α)} {k n : Nat} {key : ByteArray} {room : Int} (h : r.length ≤ k) (hk : k ≤ n) (hn : (n : Int) < room) : mayPut room r key = true := by
  unfold mayPut
  rw [Bool.or_eq_true, decide_eq_true_iff]
  right
  omega
theorem ldIGet_put {r : List (Ent Int)} (h : Rising r) (k : ByteArray) (x : Int × Int) : ldIGet (ldPut r k x) k = (x, true) := by
  unfold ldIGet
  rw [ldPut_get h, if_pos rfl]
end Go.Proofs.Ytehkhopkedbngaa
