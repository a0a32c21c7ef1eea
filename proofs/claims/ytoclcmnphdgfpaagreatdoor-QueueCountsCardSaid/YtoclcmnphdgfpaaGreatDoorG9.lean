/- Put together: The document's queue: Right, New; law08.Attr; digits, Receipt. · The document's queue: New; law08.Attr; digits, Receipt. · The document's queue: messages in rows; Receipt, first, By. · The document's queue: first, By. · The document's queue: a store into a row of messages; Extend. · The document's queue: Extend. · The document's queue: Ack. · The document's queue: the keys in a row. · The document's queue: Send, where nothing comes. -/
import Derived.Test.YtoclcmnphdgfpaaGreatDoorG6
import Derived.Test.YtoclcmnphdgfpaaGreatDoorG5
import Derived.Deep.DeepCutAuto
import Derived.BigQuiet
import Derived.Deep.QuietTactic
import Derived.Test.YtoclcmnphdgfpaaGreatDoorG8
import Derived.Test.YtoclcmnphdgfpaaGreatDoorWLast
import Derived.StillTailTactics
import Derived.StillTactics
import Derived.IntWalk
set_option linter.unusedVariables false
set_option linter.unusedSimpArgs false
namespace Go.Proofs.YtoclcmnphdgfpaaGreatDoor
open Go.RowKit Go.Maps Go.Proofs.YtoclcmnphdgfpaaGreatDoorW.PrintWords
set_option maxHeartbeats 3200000 in
set_option maxRecDepth 100000 in
theorem refRight_any (a : QA) (w : World) : Calls Tryz.prog 29 #[a.val] w fun e w' => e = .returned (.bool (qRight a)) ∧ Below w.heap.size w w' := by
  obtain ⟨R, hR⟩ : ∃ R, R = qRight a := ⟨_, rfl⟩
  rw [← hR]
  have HR := Lib.hid hR
  clear hR
  have hc : (a.vis < 1) ∨ ((¬ a.vis < 1 ∧ 1048576 < a.vis) ∨ ((¬ a.vis < 1 ∧ ¬ 1048576 < a.vis ∧ a.ret < 1) ∨ ((¬ a.vis < 1 ∧ ¬ 1048576 < a.vis ∧ ¬ a.ret < 1 ∧ 1048576 < a.ret) ∨ ((¬ a.vis < 1 ∧ ¬ 1048576 < a.vis ∧ ¬ a.ret < 1 ∧ ¬ 1048576 < a.ret ∧ a.del < 0) ∨ ((¬ a.vis < 1 ∧ ¬ 1048576 < a.vis ∧ ¬ a.ret < 1 ∧ ¬ 1048576 < a.ret ∧ ¬ a.del < 0 ∧ 1048576 < a.del) ∨ ((¬ a.vis < 1 ∧ ¬ 1048576 < a.vis ∧ ¬ a.ret < 1 ∧ ¬ 1048576 < a.ret ∧ ¬ a.del < 0 ∧ ¬ 1048576 < a.del ∧ a.win < 0) ∨ ((¬ a.vis < 1 ∧ ¬ 1048576 < a.vis ∧ ¬ a.ret < 1 ∧ ¬ 1048576 < a.ret ∧ ¬ a.del < 0 ∧ ¬ 1048576 < a.del ∧ ¬ a.win < 0 ∧ 1048576 < a.win) ∨ (¬ a.vis < 1 ∧ ¬ 1048576 < a.vis ∧ ¬ a.ret < 1 ∧ ¬ 1048576 < a.ret ∧ ¬ a.del < 0 ∧ ¬ 1048576 < a.del ∧ ¬ a.win < 0 ∧ ¬ 1048576 < a.win)))))))) := by omega
  unfold QA.val QA.cells
  rcases hc with h1 | (⟨h1, h2⟩ | (⟨h1, h2, h3⟩ | (⟨h1, h2, h3, h4⟩ | (⟨h1, h2, h3, h4, h5⟩ | (⟨h1, h2, h3, h4, h5, h6⟩ | (⟨h1, h2, h3, h4, h5, h6, h7⟩ | (⟨h1, h2, h3, h4, h5, h6, h7, h8⟩ | ⟨h1, h2, h3, h4, h5, h6, h7, h8⟩)))))))
  case' inr.inr.inr.inr.inr.inr.inr.inr =>
    have hd : (a.max = 0 ∧ a.dead.size = 0) ∨ ((a.max = 0 ∧ a.dead.size ≠ 0) ∨ ((a.max ≠ 0 ∧ ¬ 0 < a.max) ∨ ((a.max ≠ 0 ∧ 0 < a.max ∧ ¬ a.max ≤ 100) ∨ ((a.max ≠ 0 ∧ 0 < a.max ∧ a.max ≤ 100 ∧ ¬ 0 < a.dead.size) ∨ ((a.max ≠ 0 ∧ 0 < a.max ∧ a.max ≤ 100 ∧ 0 < a.dead.size ∧ ¬ a.dead.size ≤ 64) ∨ (a.max ≠ 0 ∧ 0 < a.max ∧ a.max ≤ 100 ∧ 0 < a.dead.size ∧ a.dead.size ≤ 64)))))) := by omega
    rcases hd with ⟨m1, m2⟩ | (⟨m1, m2⟩ | (⟨m1, m2⟩ | (⟨m1, m2, m3⟩ | (⟨m1, m2, m3, m4⟩ | (⟨m1, m2, m3, m4, m5⟩ | ⟨m1, m2, m3, m4, m5⟩)))))
  all_goals
    first
      | (obtain rfl : R = false
         · rw [HR.out]
           unfold qRight
           rw [decide_eq_false_iff_not]
           omega)
      | (obtain rfl : R = true
         · rw [HR.out]
           unfold qRight
           rw [decide_eq_true_iff]
           omega)
    try
      first
        | (have hme : (a.max == 0) = true := by rw [m1]; rfl
           clear m1)
        | have hme : (a.max == 0) = false := by simpa using m1
    try
      have hie := isEmpty_size a.dead
      first
        | (rw [decide_eq_true m2] at hie
           have hn := nil_size m2
           clear m2)
        | (rw [decide_eq_false m2] at hie)
    try
      obtain n4 : (0 : Int) < a.dead.size
      · omega
    try
      obtain n4 : ¬ (0 : Int) < a.dead.size
      · omega
    try
      obtain n5 : (a.dead.size : Int) ≤ 64
      · omega
    try
      obtain n5 : ¬ (a.dead.size : Int) ≤ 64
      · omega
    go_enter Tryz.func29, Tryz.ntmps29
    go_wp2_with fail
    go_ret
    refine ⟨?_, below_alloc (Below.refl _ _) _⟩
    first | rfl | (simp; omega)
end Go.Proofs.YtoclcmnphdgfpaaGreatDoor
namespace Go.Proofs.YtoclcmnphdgfpaaGreatDoor
open Go.RowKit Go.Maps Go.Proofs.YtoclcmnphdgfpaaGreatDoorW.PrintWords
set_option maxHeartbeats 800000 in
set_option maxRecDepth 100000 in
theorem lawAttr_any (a : QA) (w : World) : Calls Tryz.prog 24 #[a.val] w fun e w' => e = .returned a.val ∧ Below w.heap.size w w' := by
  unfold QA.val QA.cells
  go_enter Tryz.func24, Tryz.ntmps24
  go_wp2_with fail
  exact bodyPost_ret (v := .agg #[.int .i64 a.vis, .int .i64 a.ret, .int .i64 a.del, .int .i64 a.win, .int .i64 a.max, .string a.dead, .bool a.fifo]) (by simp [results, Tryz.results24, go_sem]) rfl ⟨rfl, below_alloc (below_alloc (Below.refl _ _) _) _⟩
/-- The document's queue, as a value: attributes, time, next number, messages, keys. -/
def Qs.cells (ρ : Qs) (v1 v2 : Value) : Array Value := (ρ.a.cells ++ ([.int .i64 ρ.now, .int .i64 ρ.next, v1, v2] : List Value)).toArray
def Qs.val (ρ : Qs) (v1 v2 : Value) : Value := .agg (ρ.cells v1 v2)
set_option maxHeartbeats 800000 in
set_option maxRecDepth 100000 in
theorem refNew_any (a : QA) (w : World) : Calls Tryz.prog 23 #[a.val] w fun e w' => e = .returned ((qNew a).val (.slice none 0 0) (.slice none 0 0)) ∧ Below w.heap.size w w' := by
  unfold QA.val QA.cells
  go_enter Tryz.func23, Tryz.ntmps23
  go_wp2_with fail
  exact bodyPost_ret (v := .agg #[.int .i64 a.vis, .int .i64 a.ret, .int .i64 a.del, .int .i64 a.win, .int .i64 a.max, .string a.dead, .bool a.fifo, .int .i64 0, .int .i64 1, .slice none 0 0, .slice none 0 0]) (by simp [results, Tryz.results23, go_sem]) rfl ⟨rfl, below_alloc (below_alloc (Below.refl _ _) _) _⟩
theorem dec_small (i : Nat) (h : i < 10) : Lib.decDigits i = [UInt8.ofNat (48 + i)] := by rw [Lib.decDigits, dif_pos h]
theorem dec_big (i : Nat) (h : ¬ i < 10) : Lib.decDigits i = Lib.decDigits (i / 10) ++ Lib.decDigits (i % 10) := by
  rw [Lib.decDigits, dif_neg h, dec_small (i % 10) (by omega)]
theorem ten_d0 (w : World) : (Instr.slice 9 (.string ⟨#[48, 49, 50, 51, 52, 53, 54, 55, 56, 57]⟩) (some (.int .i64 ((0 : Nat) : Int))) (some (.int .i64 (((0 : Nat) : Int) + 1))) none).run Tryz.prog w = .ok (.string ⟨[UInt8.ofNat (48 + 0)].toArray⟩) w := by kernel_rfl
theorem ten_d1 (w : World) : (Instr.slice 9 (.string ⟨#[48, 49, 50, 51, 52, 53, 54, 55, 56, 57]⟩) (some (.int .i64 ((1 : Nat) : Int))) (some (.int .i64 (((1 : Nat) : Int) + 1))) none).run Tryz.prog w = .ok (.string ⟨[UInt8.ofNat (48 + 1)].toArray⟩) w := by kernel_rfl
theorem ten_d2 (w : World) : (Instr.slice 9 (.string ⟨#[48, 49, 50, 51, 52, 53, 54, 55, 56, 57]⟩) (some (.int .i64 ((2 : Nat) : Int))) (some (.int .i64 (((2 : Nat) : Int) + 1))) none).run Tryz.prog w = .ok (.string ⟨[UInt8.ofNat (48 + 2)].toArray⟩) w := by kernel_rfl
theorem ten_d3 (w : World) : (Instr.slice 9 (.string ⟨#[48, 49, 50, 51, 52, 53, 54, 55, 56, 57]⟩) (some (.int .i64 ((3 : Nat) : Int))) (some (.int .i64 (((3 : Nat) : Int) + 1))) none).run Tryz.prog w = .ok (.string ⟨[UInt8.ofNat (48 + 3)].toArray⟩) w := by kernel_rfl
theorem ten_d4 (w : World) : (Instr.slice 9 (.string ⟨#[48, 49, 50, 51, 52, 53, 54, 55, 56, 57]⟩) (some (.int .i64 ((4 : Nat) : Int))) (some (.int .i64 (((4 : Nat) : Int) + 1))) none).run Tryz.prog w = .ok (.string ⟨[UInt8.ofNat (48 + 4)].toArray⟩) w := by kernel_rfl
theorem ten_d5 (w : World) : (Instr.slice 9 (.string ⟨#[48, 49, 50, 51, 52, 53, 54, 55, 56, 57]⟩) (some (.int .i64 ((5 : Nat) : Int))) (some (.int .i64 (((5 : Nat) : Int) + 1))) none).run Tryz.prog w = .ok (.string ⟨[UInt8.ofNat (48 + 5)].toArray⟩) w := by kernel_rfl
theorem ten_d6 (w : World) : (Instr.slice 9 (.string ⟨#[48, 49, 50, 51, 52, 53, 54, 55, 56, 57]⟩) (some (.int .i64 ((6 : Nat) : Int))) (some (.int .i64 (((6 : Nat) : Int) + 1))) none).run Tryz.prog w = .ok (.string ⟨[UInt8.ofNat (48 + 6)].toArray⟩) w := by kernel_rfl
theorem ten_d7 (w : World) : (Instr.slice 9 (.string ⟨#[48, 49, 50, 51, 52, 53, 54, 55, 56, 57]⟩) (some (.int .i64 ((7 : Nat) : Int))) (some (.int .i64 (((7 : Nat) : Int) + 1))) none).run Tryz.prog w = .ok (.string ⟨[UInt8.ofNat (48 + 7)].toArray⟩) w := by kernel_rfl
theorem ten_d8 (w : World) : (Instr.slice 9 (.string ⟨#[48, 49, 50, 51, 52, 53, 54, 55, 56, 57]⟩) (some (.int .i64 ((8 : Nat) : Int))) (some (.int .i64 (((8 : Nat) : Int) + 1))) none).run Tryz.prog w = .ok (.string ⟨[UInt8.ofNat (48 + 8)].toArray⟩) w := by kernel_rfl
theorem ten_d9 (w : World) : (Instr.slice 9 (.string ⟨#[48, 49, 50, 51, 52, 53, 54, 55, 56, 57]⟩) (some (.int .i64 ((9 : Nat) : Int))) (some (.int .i64 (((9 : Nat) : Int) + 1))) none).run Tryz.prog w = .ok (.string ⟨[UInt8.ofNat (48 + 9)].toArray⟩) w := by kernel_rfl
theorem ten_digits (i : Nat) (h : i < 10) (w : World) : (Instr.slice 9 (.string ⟨#[48, 49, 50, 51, 52, 53, 54, 55, 56, 57]⟩) (some (.int .i64 (i : Int))) (some (.int .i64 ((i : Int) + 1))) none).run Tryz.prog w = .ok (.string ⟨(Lib.decDigits i).toArray⟩) w := by
  rw [dec_small i h]
  match i, h with
  | 0, _ => exact ten_d0 w
  | 1, _ => exact ten_d1 w
  | 2, _ => exact ten_d2 w
  | 3, _ => exact ten_d3 w
  | 4, _ => exact ten_d4 w
  | 5, _ => exact ten_d5 w
  | 6, _ => exact ten_d6 w
  | 7, _ => exact ten_d7 w
  | 8, _ => exact ten_d8 w
  | 9, _ => exact ten_d9 w
  | k + 10, h => omega
set_option maxRecDepth 100000 in
theorem digits_any (i : Nat) (h : i < 9223372036854775807) (w : World) : Calls Tryz.prog 100 #[.int .i64 (i : Int)] w fun e w' => e = .returned (.string ⟨(Lib.decDigits i).toArray⟩) ∧ w = w' := by
  induction i using Nat.strongRecOn generalizing w with
  | _ i ih =>
    by_cases h10 : i < 10
    · have hs := ten_digits i h10
      have g1 : (i : Int) < 10 := by omega
      obtain ⟨s, hss⟩ : ∃ s : ByteArray, s = ⟨(Lib.decDigits i).toArray⟩ := ⟨_, rfl⟩
      rw [← hss] at hs ⊢
      clear ih hss
      go_enter Tryz.func100, Tryz.ntmps100
      go_wp2_with fail
      go_ret
      exact ⟨rfl, rfl⟩
    · have g1 : ¬ (i : Int) < 10 := by omega
      have h1 := fun w1 : World => ih (i / 10) (by omega) (by omega) w1
      have h2 := fun w1 : World => ih (i % 10) (by omega) (by omega) w1
      have e1 : ((i / 10 : Nat) : Int) = (i : Int) / 10 := by omega
      have e2 : ((i % 10 : Nat) : Int) = (i : Int) % 10 := by omega
      have z1 := Lib.nDigits_le20 (i / 10) (by omega)
      have z2 := Lib.nDigits_le20 (i % 10) (by omega)
      have l1 := Lib.decDigits_length (i / 10)
      have l2 := Lib.decDigits_length (i % 10)
      have hcat : (⟨(Lib.decDigits (i / 10)).toArray⟩ : ByteArray) ++ ⟨(Lib.decDigits (i % 10)).toArray⟩ = ⟨(Lib.decDigits i).toArray⟩ := by
        apply ByteArray.ext
        rw [dec_big i h10]
        simp
      obtain ⟨s1, hs1⟩ : ∃ s : ByteArray, s = ⟨(Lib.decDigits (i / 10)).toArray⟩ := ⟨_, rfl⟩
      obtain ⟨s2, hs2⟩ : ∃ s : ByteArray, s = ⟨(Lib.decDigits (i % 10)).toArray⟩ := ⟨_, rfl⟩
      have zz1 : s1.size ≤ 20 := by rw [hs1]; show (Lib.decDigits (i / 10)).toArray.size ≤ 20; simp; omega
      have zz2 : s2.size ≤ 20 := by rw [hs2]; show (Lib.decDigits (i % 10)).toArray.size ≤ 20; simp; omega
      rw [← hs1, e1] at h1
      rw [← hs2, e2] at h2
      rw [← hs1, ← hs2] at hcat
      have H1 := Lib.hid h1
      have H2 := Lib.hid h2
      have HC := Lib.hid hcat
      have hi0 : (0 : Int) ≤ i := by omega
      clear h1 h2 hcat hs1 hs2 l1 l2 e1 e2 ih z1 z2
      go_enter Tryz.func100, Tryz.ntmps100
      go_wp2_with fail
      refine Calls.mono (H1.out w) ?_
      rintro e w1 ⟨rfl, rfl⟩
      go_wp2_with fail
      refine Calls.mono (H2.out w) ?_
      rintro e w2 ⟨rfl, rfl⟩
      go_wp2_with fail
      go_ret
      exact ⟨by rw [← HC.out]; rfl, rfl⟩
end Go.Proofs.YtoclcmnphdgfpaaGreatDoor
namespace Go.Proofs.YtoclcmnphdgfpaaGreatDoor
open Go.RowKit Go.Maps Go.Proofs.YtoclcmnphdgfpaaGreatDoorW.PrintWords
def KDm : Kd Dm := Kd.pair (Kd.int .i64) (Kd.pair (Kd.int .i64) (Kd.pair (Kd.int .i64) (Kd.pair (Kd.int .i64) (Kd.pair Kd.bool (Kd.pair Kd.string Kd.string)))))
def Dm.cells (x : Dm) : List Value := [.int .i64 x.1, .int .i64 x.2.1, .int .i64 x.2.2.1, .int .i64 x.2.2.2.1, .bool x.2.2.2.2.1, .string x.2.2.2.2.2.1, .string x.2.2.2.2.2.2]
theorem KDm_K (w : World) (x : Dm) : KDm.K w x (Dm.cells x) := ⟨[_], [_, _, _, _, _, _], rfl, rfl, [_], [_, _, _, _, _], rfl, rfl, [_], [_, _, _, _], rfl, rfl, [_], [_, _, _], rfl, rfl, [_], [_, _], rfl, rfl, [_], [_], rfl, rfl, rfl⟩
theorem KDm_of (w : World) (base : Nat) (ok : Nat → Prop) (x : Dm) : KDm.M w base ok x (Dm.cells x) := ⟨[_], [_, _, _, _, _, _], rfl, rfl, [_], [_, _, _, _, _], rfl, rfl, [_], [_, _, _, _], rfl, rfl, [_], [_, _, _], rfl, rfl, [_], [_, _], rfl, rfl, [_], [_], rfl, rfl, rfl⟩
theorem KDm_inv {w : World} {x : Dm} {c : List Value} (h : KDm.K w x c) : c = Dm.cells x := by
  obtain ⟨c0, d0, rfl, h0, c1, d1, rfl, h1, c2, d2, rfl, h2, c3, d3, rfl, h3, c4, d4, rfl, h4, c5, d5, rfl, h5, h6⟩ := h
  have h0 : c0 = [.int .i64 x.1] := h0
  have h1 : c1 = [.int .i64 x.2.1] := h1
  have h2 : c2 = [.int .i64 x.2.2.1] := h2
  have h3 : c3 = [.int .i64 x.2.2.2.1] := h3
  have h4 : c4 = [.bool x.2.2.2.2.1] := h4
  have h5 : c5 = [.string x.2.2.2.2.2.1] := h5
  have h6 : d5 = [.string x.2.2.2.2.2.2] := h6
  subst h0 h1 h2 h3 h4 h5 h6
  rfl
theorem C_nth_dm {w : World} {A : Option Addr} {n : Nat} {l : List Msg} (h : KDm.C w A n (l.map Msg.doc)) (k : Nat) (hk : k < n) :
    ∃ ad m, A = some ad ∧ l[k]? = some m ∧ w.cell? (ad.add (k * 7)) = some (.int .i64 m.id) ∧ w.cell? ⟨(ad.add (k * 7)).block, (ad.add (k * 7)).off + 1, none⟩ = some (.int .i64 m.sent) ∧ w.cell? ⟨(ad.add (k * 7)).block, (ad.add (k * 7)).off + 2, none⟩ = some (.int .i64 m.count) ∧ w.cell? ⟨(ad.add (k * 7)).block, (ad.add (k * 7)).off + 3, none⟩ = some (.int .i64 m.time) ∧ w.cell? ⟨(ad.add (k * 7)).block, (ad.add (k * 7)).off + 4, none⟩ = some (.bool m.leased) ∧ w.cell? ⟨(ad.add (k * 7)).block, (ad.add (k * 7)).off + 5, none⟩ = some (.string m.body) ∧ w.cell? ⟨(ad.add (k * 7)).block, (ad.add (k * 7)).off + 6, none⟩ = some (.string m.group) := by
  obtain ⟨ad, x, c, hA, hx, _, hK, h3⟩ := C_nth h k hk
  rw [List.getElem?_map] at hx
  obtain ⟨m, hm, rfl⟩ := Option.map_eq_some_iff.1 hx
  have hc := KDm_inv hK
  subst hc
  have hsz : KDm.sz = 7 := rfl
  rw [hsz] at h3
  refine ⟨ad, m, hA, hm, h3 0 _ rfl, ?_, ?_, ?_, ?_, ?_, ?_⟩
  · have := h3 1 _ rfl; rw [← add_field ad _ 1 (by omega)]; exact this
  · have := h3 2 _ rfl; rw [← add_field ad _ 2 (by omega)]; exact this
  · have := h3 3 _ rfl; rw [← add_field ad _ 3 (by omega)]; exact this
  · have := h3 4 _ rfl; rw [← add_field ad _ 4 (by omega)]; exact this
  · have := h3 5 _ rfl; rw [← add_field ad _ 5 (by omega)]; exact this
  · have := h3 6 _ rfl; rw [← add_field ad _ 6 (by omega)]; exact this
theorem info_dm : (Tryz.prog.info? 111).map (fun i => (i.zero, i.size, i.bytes)) = some (some (.agg #[.int .i64 0, .int .i64 0, .int .i64 0, .int .i64 0, .bool false, .string ⟨#[]⟩, .string ⟨#[]⟩]), 7, 72) := by kernel_rfl
/-- A row of the document's messages. -/
abbrev ADm (v : Value) (l : List Msg) : Asn := ARow KDm 111 v (l.map Msg.doc)
/-- A number's digits. -/
def dstr (n : Int) : ByteArray := ⟨(Lib.decDigits n.toNat).toArray⟩
theorem dstr_size (n : Int) (h : 0 ≤ n ∧ n < 9223372036854775807) : (dstr n).size ≤ 20 := by
  have d1 := Lib.nDigits_le20 n.toNat (by omega)
  have l1 := Lib.decDigits_length n.toNat
  show (Lib.decDigits n.toNat).toArray.size ≤ 20
  simp
  omega
theorem dstr_receipt (i c : Int) : dstr i ++ ⟨#[46]⟩ ++ dstr c = receipt i c := by
  unfold receipt dstr
  apply ByteArray.ext
  simp
theorem digits_int (n : Int) (h : 0 ≤ n ∧ n < 9223372036854775807) (w : World) : Calls Tryz.prog 100 #[.int .i64 n] w fun e w' => e = .returned (.string (dstr n)) ∧ w = w' := by
  obtain ⟨k, rfl⟩ : ∃ k : Nat, n = k := ⟨n.toNat, by omega⟩
  exact digits_any k (by omega) w
/-- Numbers that the document's digits take. -/
def dmOk (m : Msg) : Prop := (0 ≤ m.id ∧ m.id < 9223372036854775807) ∧ (0 ≤ m.count ∧ m.count < 9223372036854775807)
set_option maxHeartbeats 1600000 in
set_option maxRecDepth 100000 in
theorem refReceipt_any (i sn c t : Int) (b : Bool) (s1 s2 : ByteArray) (w : World) (hi : 0 ≤ i ∧ i < 9223372036854775807) (hc : 0 ≤ c ∧ c < 9223372036854775807) :
    Calls Tryz.prog 79 #[.agg #[.int .i64 i, .int .i64 sn, .int .i64 c, .int .i64 t, .bool b, .string s1, .string s2]] w fun e w' => e = .returned (.string (receipt i c)) ∧ Below w.heap.size w w' := by
  have z1 := dstr_size i hi
  have z2 := dstr_size c hc
  have z3 : (dstr i ++ ⟨#[46]⟩).size ≤ 21 := by rw [ByteArray.size_append]; show (dstr i).size + 1 ≤ 21; omega
  have HRC := Lib.hid (dstr_receipt i c)
  have HB := Lib.hid (below_alloc (Below.refl w.heap.size w) (.cells #[.int .i64 i, .int .i64 sn, .int .i64 c, .int .i64 t, .bool b, .string s1, .string s2] 111))
  go_enter Tryz.func79, Tryz.ntmps79
  go_wp2_with fail
  go_quiet ((go_at_call 100; exact Calls.quiet_of (Calls.mono (digits_int _ (by first | exact hi | exact hc) _) (fun _ _ ⟨h1, h2⟩ => ⟨h1, 0, h2 ▸ rfl⟩))))
  go_wp2_with fail
  go_ret
  refine ⟨by rw [← HRC.out]; rfl, pw_below_drewN HB.out _⟩
end Go.Proofs.YtoclcmnphdgfpaaGreatDoor
namespace Go.Proofs.YtoclcmnphdgfpaaGreatDoor
open Go.RowKit Go.Maps Go.Proofs.YtoclcmnphdgfpaaGreatDoorW.PrintWords
/-- Whether a message is leased by a receipt. -/
def isBy (s : ByteArray) (m : Msg) : Bool := m.leased && decide (m.slip = s)
/-- Where the message is that is leased by a receipt; -1: nowhere. -/
def refAt (l : List Msg) (s : ByteArray) : Int := if l.findIdx (isBy s) < l.length then (l.findIdx (isBy s) : Nat) else -1
def NoBy (s : ByteArray) (l : List Msg) (j : Nat) : Prop := ∀ (i : Nat) (m : Msg), i < j → l[i]? = some m → isBy s m = false
theorem NoBy.zero (s : ByteArray) (l : List Msg) : NoBy s l 0 := fun i _ h => absurd h (Nat.not_lt_zero i)
theorem NoBy.succ {s : ByteArray} {l : List Msg} {j : Nat} {m : Msg} (h : NoBy s l j) (hm : l[j]? = some m) (hp : isBy s m = false) : NoBy s l (j + 1) := by
  intro i x hi hx
  rcases Nat.lt_or_ge i j with h1 | h1
  · exact h i x h1 hx
  · obtain rfl : i = j := by omega
    rw [hm] at hx
    exact Option.some.inj hx ▸ hp
theorem NoBy.found {s : ByteArray} {l : List Msg} {j : Nat} {m : Msg} (h : NoBy s l j) (hm : l[j]? = some m) (hp : isBy s m = true) : refAt l s = j := by
  obtain ⟨hj, rfl⟩ := List.getElem?_eq_some_iff.1 hm
  have : l.findIdx (isBy s) = j := (List.findIdx_eq hj).2 ⟨hp, fun i hi => h i _ hi (List.getElem?_eq_getElem _)⟩
  unfold refAt
  rw [this, if_pos hj]
theorem NoBy.none {s : ByteArray} {l : List Msg} (h : NoBy s l l.length) : refAt l s = -1 := by
  have : l.findIdx (isBy s) = l.length := by
    rw [List.findIdx_eq_length]
    intro x hx
    obtain ⟨i, hi, rfl⟩ := List.getElem_of_mem hx
    exact h i _ hi (List.getElem?_eq_getElem _)
  unfold refAt
  rw [this, if_neg (Nat.lt_irrefl _)]
set_option maxHeartbeats 1600000 in
set_option maxRecDepth 100000 in
theorem refBy_any (ρ : Qs) (A : Option Addr) (n c : Nat) (v2 : Value) (s : ByteArray) (w : World) (hC : KDm.C w A n (ρ.l.map Msg.doc)) (hok : ∀ m ∈ ρ.l, dmOk m) :
    Calls Tryz.prog 80 #[ρ.val (.slice A n c) v2, .string s] w fun e w' => e = .returned (.int .i64 (refAt ρ.l s)) ∧ Below w.heap.size w w' := by
  have hn : n = ρ.l.length := by have := Kd.C_len hC; rw [List.length_map] at this; exact this.symm
  have HN := Lib.hid hn
  have hnm := Kd.C_max hC
  have HC := Lib.hid hC
  have HOK := Lib.hid hok
  have hP0 := (Hp.nil w).alloc (.cells (ρ.cells (.slice A n c) v2) 58)
  have HP0 := Lib.hid hP0
  obtain ⟨R, hR⟩ : ∃ R, R = refAt ρ.l s := ⟨_, rfl⟩
  rw [← hR]
  have HR := Lib.hid hR
  clear hC hok hn hR hP0
  unfold Qs.val
  have hcs : ρ.cells (.slice A n c) v2 = #[.int .i64 ρ.a.vis, .int .i64 ρ.a.ret, .int .i64 ρ.a.del, .int .i64 ρ.a.win, .int .i64 ρ.a.max, .string ρ.a.dead, .bool ρ.a.fifo, .int .i64 ρ.now, .int .i64 ρ.next, .slice A n c, v2] := rfl
  rw [hcs] at HP0 ⊢
  clear hcs
  go_enter Tryz.func80, Tryz.ntmps80
  go_wp2_with fail
  go_loopw [5] (fun i wr => ∃ j : Nat, i = .int .i64 j ∧ j ≤ n ∧ NoBy s ρ.l j ∧ Hp w wr [ABlk w.heap.size (.cells #[.int .i64 ρ.a.vis, .int .i64 ρ.a.ret, .int .i64 ρ.a.del, .int .i64 ρ.a.win, .int .i64 ρ.a.max, .string ρ.a.dead, .bool ρ.a.fifo, .int .i64 ρ.now, .int .i64 ρ.next, .slice A n c, v2] 58 (0, 0))]) (fun i _ => n - (intOf i).toNat)
  case atStart => exact ⟨0, rfl, Nat.zero_le _, NoBy.zero _ _, HP0.out⟩
  case round =>
    obtain ⟨j, rfl, hj, hno, hP⟩ := hrel
    have HP := Lib.hid hP
    have HNO := Lib.hid hno
    have b9 := blk_cell hP.blk0 9
    simp only [List.getElem?_toArray, List.getElem?_cons_zero, List.getElem?_cons_succ] at b9
    clear hP hno
    by_cases hjn : j < n
    · obtain ⟨ad, m, rfl, hm, d0, d1, d2, d3, d4, d5, d6⟩ := C_nth_dm (Kd.C_below HC.out HP.out.belowW) j hjn
      have i0 : (0 : Int) ≤ (j : Int) := by omega
      have i1 : (j : Int) < (n : Int) := by omega
      have HM := Lib.hid hm
      obtain ⟨o1, o2⟩ := HOK.out m (mem_at hm)
      clear hm
      cases hl : m.leased
      case false =>
        rw [hl] at d4
        have HF := Lib.hid (show isBy s m = false by unfold isBy; rw [hl]; rfl)
        clear hl
        go_wp2_with fail
        refine ⟨⟨j + 1, by simp, by omega, HNO.out.succ HM.out HF.out, HP.out⟩, ?_⟩
        simp [intOf]
        omega
      case true =>
        rw [hl] at d4
        have HL := Lib.hid hl
        clear hl
        by_cases hmk : m.slip = s
        · have hsb : (m.slip.toList == s.toList) = true := by rw [hmk]; simp
          have HF := Lib.hid (show isBy s m = true by unfold isBy; rw [HL.out, decide_eq_true hmk]; rfl)
          unfold Msg.slip at hsb
          clear hmk
          go_wp2_with fail
          refine Calls.mono (refReceipt_any m.id m.sent m.count m.time true m.body m.group _ o1 o2) ?_
          rintro e w2 ⟨rfl, hB⟩
          have HP2 := Lib.hid (HP.out.below hB)
          clear hB b9 d0 d1 d2 d3 d4 d5 d6
          go_wp2_with fail
          go_ret
          exact ⟨by rw [HR.out, HNO.out.found HM.out HF.out]; rfl, HP2.out.belowW⟩
        · have hsb : (m.slip.toList == s.toList) = false := by
            rw [Go.ByteArray.toList_eq, Go.ByteArray.toList_eq, beq_eq_false_iff_ne]
            exact fun e => hmk (ByteArray.ext (Array.toList_inj.1 e))
          have HF := Lib.hid (show isBy s m = false by unfold isBy; rw [HL.out, decide_eq_false hmk]; rfl)
          unfold Msg.slip at hsb
          clear hmk
          go_wp2_with fail
          refine Calls.mono (refReceipt_any m.id m.sent m.count m.time true m.body m.group _ o1 o2) ?_
          rintro e w2 ⟨rfl, hB⟩
          have HP2 := Lib.hid (HP.out.below hB)
          clear hB b9 d0 d1 d2 d3 d4 d5 d6
          go_wp2_with fail
          refine ⟨⟨j + 1, by simp, by omega, HNO.out.succ HM.out HF.out, HP2.out⟩, ?_⟩
          simp [intOf]
          omega
    · have hjn' : j = n := by omega
      subst hjn'
      go_wp2_with fail
      go_ret
      refine ⟨?_, HP.out.belowW⟩
      have := HNO.out
      rw [HN.out] at this
      rw [HR.out, this.none]
      rfl
def firstB (l : List Msg) (i : Nat) (m : Msg) : Bool := !((l.take i).any (fun x => decide (x.group = m.group)))
set_option maxHeartbeats 1600000 in
set_option maxRecDepth 100000 in
theorem refFirst_any (l : List Msg) (A : Option Addr) (n c i : Nat) (m : Msg) (w : World) (hC : KDm.C w A n (l.map Msg.doc)) (hm : l[i]? = some m) :
    Calls Tryz.prog 78 #[.slice A n c, .int .i64 (i : Int)] w fun e w' => e = .returned (.bool (firstB l i m)) ∧ ∃ k, w' = w.drewN k := by
  have hn : n = l.length := by have := Kd.C_len hC; rw [List.length_map] at this; exact this.symm
  have hil : i < l.length := (List.getElem?_eq_some_iff.1 hm).1
  have hin : i < n := by omega
  have HN := Lib.hid hn
  have hnm := Kd.C_max hC
  have HC := Lib.hid hC
  have HM := Lib.hid hm
  obtain ⟨R, hR⟩ : ∃ R, R = firstB l i m := ⟨_, rfl⟩
  rw [← hR]
  have HR := Lib.hid hR
  clear hC hm hn hR hil
  go_enter Tryz.func78, Tryz.ntmps78
  go_wp2_with fail
  go_loopw [5] (fun k wr => ∃ j : Nat, k = .int .i64 j ∧ j ≤ i ∧ ((l.take j).any (fun x => decide (x.group = m.group))) = false ∧ ∃ q, wr = w.drewN q) (fun k _ => i - (intOf k).toNat)
  case atStart => exact ⟨0, rfl, Nat.zero_le _, by rw [List.take_zero]; rfl, 0, rfl⟩
  case round =>
    obtain ⟨j, rfl, hj, hno, q, rfl⟩ := hrel
    have HNO := Lib.hid hno
    clear hno
    by_cases hji : j < i
    · obtain ⟨ad, x, rfl, hx, d0, d1, d2, d3, d4, d5, d6⟩ := C_nth_dm HC.out j (by omega)
      obtain ⟨ad', y, had, hy, e0, e1, e2, e3, e4, e5, e6⟩ := C_nth_dm HC.out i hin
      injection had with had
      subst had
      obtain rfl : y = m := Option.some.inj (hy.symm.trans HM.out)
      have i0 : (0 : Int) ≤ (j : Int) := by omega
      have i1 : (j : Int) < (n : Int) := by omega
      have i2 : (0 : Int) ≤ (i : Int) := by omega
      have i3 : (i : Int) < (n : Int) := by omega
      have i4 : (j : Int) < (i : Int) := by omega
      have HX := Lib.hid hx
      clear hx hy d0 d1 d2 d3 d4 d5 e0 e1 e2 e3 e4 e5
      by_cases hg : x.group = y.group
      · have hsb : (x.group.toList == y.group.toList) = true := by rw [hg]; simp
        have HF := Lib.hid (show R = false by
          rw [HR.out]
          unfold firstB
          have : ((l.take i).any (fun z => decide (z.group = y.group))) = true := List.any_eq_true.2 ⟨x, by
            refine List.mem_of_getElem? (i := j) ?_
            rw [List.getElem?_take_of_lt hji]
            exact HX.out, by simpa using hg⟩
          rw [this]
          rfl)
        clear hg
        go_wp2_with fail
        go_quiet (fail)
        go_wp2_with fail
        go_ret
        exact ⟨by rw [HF.out]; rfl, _, by first | rfl | rw [World.drewN_drewN]⟩
      · have hsb : (x.group.toList == y.group.toList) = false := by
          rw [Go.ByteArray.toList_eq, Go.ByteArray.toList_eq, beq_eq_false_iff_ne]
          exact fun e => hg (ByteArray.ext (Array.toList_inj.1 e))
        have HF := Lib.hid (show ((l.take (j + 1)).any (fun z => decide (z.group = y.group))) = false by
          rw [take_snoc' HX.out, List.any_append, HNO.out]
          simpa using hg)
        clear hg
        go_wp2_with fail
        go_quiet (fail)
        go_wp2_with fail
        refine ⟨⟨j + 1, by simp, by omega, HF.out, _, by first | rfl | rw [World.drewN_drewN]⟩, ?_⟩
        simp [intOf]
        omega
    · have hji' : j = i := by omega
      subst hji'
      have HF := Lib.hid (show R = true by rw [HR.out]; unfold firstB; rw [HNO.out]; rfl)
      go_wp2_with fail
      go_ret
      exact ⟨by rw [HF.out]; rfl, _, rfl⟩
end Go.Proofs.YtoclcmnphdgfpaaGreatDoor
set_option linter.unusedVariables false
set_option linter.unusedSimpArgs false
namespace Go.Proofs.YtoclcmnphdgfpaaGreatDoor
open Go.RowKit Go.Maps Go.Proofs.YtoclcmnphdgfpaaGreatDoorW.PrintWords
section
variable {w0 w : World} {Ps : List Asn}
theorem Hp.dmPut {g n cap : Nat} {xs : List Dm} (h : Hp w0 w (ARow KDm 111 (.slice (some ⟨g, 0, none⟩) n cap) xs :: Ps)) {i f : Nat} {x x' : Dm} {u : Value} (hx : xs[i]? = some x) (hf : f < 7) (hc : Dm.cells x' = (Dm.cells x).take f ++ [u] ++ (Dm.cells x).drop (f + 1)) :
    w.frozen? ⟨g, i * 7 + f, none⟩ = false ∧ Hp w0 (w.setCell ⟨g, i * 7 + f, none⟩ u) (ARow KDm 111 (.slice (some ⟨g, 0, none⟩) n cap) (xs.set i x') :: Ps) := by
  obtain ⟨okr, hR1, hR2, hR3⟩ := h.appended
  have hC := (Kd.R_reads' hR1).2.2
  have hn : n = xs.length := (Kd.R_reads' hR1).1
  have hi : i < xs.length := (List.getElem?_eq_some_iff.1 hx).1
  obtain ⟨c0, _, _, _, hfz⟩ := Kd.R_elem hR1 x (i : Int) (by omega) (by omega)
  obtain ⟨ad, x1, c, hA, hx1, hcl, hK, h3⟩ := C_nth hC i (by omega)
  obtain rfl : x = x1 := Option.some.inj (hx.symm.trans hx1)
  have hcc := KDm_inv hK
  subst hcc
  obtain rfl : (⟨g, 0, none⟩ : Addr) = ad := Option.some.inj hA
  have hsz : KDm.sz = 7 := rfl
  obtain ⟨hr1, hr2⟩ := Kd.R_seg (d := KDm) hR1 (i : Int) (by omega) (by omega) (c := Dm.cells x) (seg := [u]) (j := f) rfl (fun j v hv => by
    have := h3 j v hv
    rw [hsz] at this ⊢
    rw [Int.toNat_natCast]
    rw [add_at, Nat.zero_add] at this
    exact this) (by rw [hsz, List.length_singleton]; omega) (x' := x') (okp := fun _ => False) (by rw [List.length_singleton, ← hc]; exact KDm_of _ _ _ x') (fun _ h => h.elim)
  rw [Int.toNat_natCast, hsz] at hr1 hr2
  have h2 := hfz f
  rw [Int.toNat_natCast, hsz] at h2
  exact ⟨h2, hR3 _ _ _ hr1 hr2⟩
end
/-- One message is another. -/
theorem map_set {l : List Msg} {i : Nat} {m : Msg} (hr : l.Pairwise (fun a b => a.id < b.id)) (hm : l[i]? = some m) (f : Msg → Msg) : l.map (fun x => if x.id = m.id then f x else x) = l.set i (f m) := by
  apply List.ext_getElem?
  intro j
  rw [List.getElem?_map, List.getElem?_set]
  have hi : i < l.length := (List.getElem?_eq_some_iff.1 hm).1
  by_cases hij : i = j
  · subst hij
    rw [if_pos rfl, if_pos hi, hm]
    simp
  · rw [if_neg hij]
    cases hx : l[j]? with
    | none => rfl
    | some x =>
      have hj : j < l.length := (List.getElem?_eq_some_iff.1 hx).1
      have e1 : l[i] = m := (List.getElem?_eq_some_iff.1 hm).2
      have e2 : l[j] = x := (List.getElem?_eq_some_iff.1 hx).2
      have : x.id ≠ m.id := by
        rw [← e1, ← e2]
        rcases Nat.lt_or_gt_of_ne hij with h | h
        · have := (List.pairwise_iff_getElem.1 hr) i j hi hj h
          omega
        · have := (List.pairwise_iff_getElem.1 hr) j i hj hi h
          omega
      simp [this]
theorem refAt_some {l : List Msg} {s : ByteArray} {i : Nat} {m : Msg} (hm : l[i]? = some m) (h : refAt l s = (i : Int)) : l.find? (isBy s) = some m := by
  unfold refAt at h
  split at h
  · rename_i hlt
    have : l.findIdx (isBy s) = i := by omega
    subst this
    rw [List.find?_eq_some_iff_getElem]
    obtain ⟨h1, h2⟩ := List.getElem?_eq_some_iff.1 hm
    refine ⟨by rw [← h2]; exact List.findIdx_getElem, _, h1, h2, fun j hj => by simpa using List.not_of_lt_findIdx hj⟩
  · omega
theorem refAt_none {l : List Msg} {s : ByteArray} (h : refAt l s < 0) : l.find? (isBy s) = none := by
  unfold refAt at h
  split at h
  · omega
  · rename_i hlt
    rw [List.find?_eq_none]
    intro x hx hp
    exact hlt (List.findIdx_lt_length_of_exists ⟨x, hx, hp⟩)
theorem refAt_cases (l : List Msg) (s : ByteArray) : (refAt l s < 0 ∧ l.find? (isBy s) = none) ∨ ∃ (i : Nat) (m : Msg), refAt l s = (i : Int) ∧ l[i]? = some m ∧ l.find? (isBy s) = some m := by
  by_cases h : refAt l s < 0
  · exact .inl ⟨h, refAt_none h⟩
  · right
    have h2 : l.findIdx (isBy s) < l.length := by
      unfold refAt at h
      split at h
      · assumption
      · omega
    have h3 : refAt l s = (l.findIdx (isBy s) : Nat) := by unfold refAt; rw [if_pos h2]
    exact ⟨_, l[l.findIdx (isBy s)], h3, List.getElem?_eq_getElem h2, refAt_some (List.getElem?_eq_getElem h2) h3⟩
end Go.Proofs.YtoclcmnphdgfpaaGreatDoor
set_option linter.unusedVariables false
set_option linter.unusedSimpArgs false
namespace Go.Proofs.YtoclcmnphdgfpaaGreatDoor
open Go.RowKit Go.Maps Go.Proofs.YtoclcmnphdgfpaaGreatDoorW.PrintWords
/-- The cells of a document's queue. -/
theorem doc_cells (a : QA) (now next : Int) (l : List Msg) (k : List (ByteArray × (Int × Int))) (v1 v2 : Value) : Qs.cells ⟨a, now, next, l, k⟩ v1 v2 = #[.int .i64 a.vis, .int .i64 a.ret, .int .i64 a.del, .int .i64 a.win, .int .i64 a.max, .string a.dead, .bool a.fifo, .int .i64 now, .int .i64 next, v1, v2] := rfl
theorem blk11 {w : World} {g : Nat} {x0 x1 x2 x3 x4 x5 x6 x7 x8 x9 x10 : Value} (h : w.heap[g]? = some (.cells #[x0, x1, x2, x3, x4, x5, x6, x7, x8, x9, x10] 58 (0, 0))) :
    w.cell? ⟨g, 0, none⟩ = some x0 ∧ w.cell? ⟨g, 1, none⟩ = some x1 ∧ w.cell? ⟨g, 2, none⟩ = some x2 ∧ w.cell? ⟨g, 3, none⟩ = some x3 ∧ w.cell? ⟨g, 4, none⟩ = some x4 ∧ w.cell? ⟨g, 5, none⟩ = some x5 ∧ w.cell? ⟨g, 6, none⟩ = some x6 ∧ w.cell? ⟨g, 7, none⟩ = some x7 ∧ w.cell? ⟨g, 8, none⟩ = some x8 ∧ w.cell? ⟨g, 9, none⟩ = some x9 ∧ w.cell? ⟨g, 10, none⟩ = some x10 ∧ (∀ i, w.frozen? ⟨g, i, none⟩ = false) :=
  ⟨blk_cell h 0, blk_cell h 1, blk_cell h 2, blk_cell h 3, blk_cell h 4, blk_cell h 5, blk_cell h 6, blk_cell h 7, blk_cell h 8, blk_cell h 9, blk_cell h 10, fun i => blk_frozen h i⟩
theorem info_rq : (Tryz.prog.info? 58).map (·.size) = some 11 := by kernel_rfl
section
variable {w0 w : World} {ρ : Qs} {Ps : List Asn}
theorem Hp.setRowBlk {g t : Nat} {old : Array Value} (h : Hp w0 w (ABlk g (.cells old t (0, 0)) :: Ps)) (cs : Array Value) : Hp w0 (w.setRow g cs) (ABlk g (.cells cs t (0, 0)) :: Ps) := by
  obtain ⟨S1, h1, h2⟩ := h.use1
  exact h2 _ (ABlk g (.cells cs t (0, 0))) ⟨rfl, rfl, rfl, by simp, fun k hk hn => setRow_other _ _ _ _ (fun e => hn (e ▸ h1.1))⟩ ⟨.inl h1.1, setRow_heap _ _ _ _ _ _ h1.2⟩
theorem Hp.dmPutA {ad : Addr} {n cap : Nat} {xs : List Dm} (h : Hp w0 w (ARow KDm 111 (.slice (some ad) n cap) xs :: Ps)) {i f : Nat} {x x' : Dm} {u : Value} (hx : xs[i]? = some x) (hf : f < 7) (hc : Dm.cells x' = (Dm.cells x).take f ++ [u] ++ (Dm.cells x).drop (f + 1)) :
    w.frozen? ⟨(ad.add (i * 7)).block, (ad.add (i * 7)).off + f, none⟩ = false ∧ Hp w0 (w.setCell ⟨(ad.add (i * 7)).block, (ad.add (i * 7)).off + f, none⟩ u) (ARow KDm 111 (.slice (some ad) n cap) (xs.set i x') :: Ps) := by
  have hi : i < xs.length := (List.getElem?_eq_some_iff.1 hx).1
  obtain ⟨g, cap', hv, _⟩ := Kd.R_form h.head (by omega)
  injection hv with h1 h2 h3
  injection h1 with h1
  subst h1
  rw [add_at, Nat.zero_add]
  exact h.dmPut hx hf hc
theorem Hp.dmCell {ad : Addr} {n cap : Nat} {xs : List Dm} (h : Hp w0 w (ARow KDm 111 (.slice (some ad) n cap) xs :: Ps)) {i f : Nat} {x : Dm} {u : Value} (hx : xs[i]? = some x) (hf : 0 < f) (hu : (Dm.cells x)[f]? = some u) :
    w.cell? ⟨(ad.add (i * 7)).block, (ad.add (i * 7)).off + f, none⟩ = some u := by
  have hi : i < xs.length := (List.getElem?_eq_some_iff.1 hx).1
  have hR := Kd.R_reads' h.head
  obtain ⟨ad1, x1, c, hA, hx1, hcl, hK, h3⟩ := C_nth hR.2.2 i hi
  obtain rfl : x = x1 := Option.some.inj (hx.symm.trans hx1)
  obtain rfl : ad = ad1 := Option.some.inj hA
  have hcc := KDm_inv hK
  subst hcc
  have h4 := h3 f _ hu
  rw [show KDm.sz = 7 from rfl] at h4
  rw [← add_field ad _ f hf]
  exact h4
theorem Hp.set11 {g : Nat} {z0 z1 z2 z3 z4 z5 z6 z7 z8 z9 z10 : Value} (h : Hp w0 w (ABlk g (.cells #[z0, z1, z2, z3, z4, z5, z6, z7, z8, z9, z10] 58 (0, 0)) :: Ps)) (x0 x1 x2 x3 x4 x5 x6 x7 x8 x9 x10 : Value) :
    Hp w0 (((((((((((w.setCell ⟨g, 0, none⟩ x0).setCell ⟨g, 1, none⟩ x1).setCell ⟨g, 2, none⟩ x2).setCell ⟨g, 3, none⟩ x3).setCell ⟨g, 4, none⟩ x4).setCell ⟨g, 5, none⟩ x5).setCell ⟨g, 6, none⟩ x6).setCell ⟨g, 7, none⟩ x7).setCell ⟨g, 8, none⟩ x8).setCell ⟨g, 9, none⟩ x9).setCell ⟨g, 10, none⟩ x10) (ABlk g (.cells #[x0, x1, x2, x3, x4, x5, x6, x7, x8, x9, x10] 58 (0, 0)) :: Ps) := by
  have h0 : Hp w0 _ (ABlk g (.cells #[x0, z1, z2, z3, z4, z5, z6, z7, z8, z9, z10] 58 (0, 0)) :: Ps) := h.setBlk 0 x0
  have h1 : Hp w0 _ (ABlk g (.cells #[x0, x1, z2, z3, z4, z5, z6, z7, z8, z9, z10] 58 (0, 0)) :: Ps) := h0.setBlk 1 x1
  have h2 : Hp w0 _ (ABlk g (.cells #[x0, x1, x2, z3, z4, z5, z6, z7, z8, z9, z10] 58 (0, 0)) :: Ps) := h1.setBlk 2 x2
  have h3 : Hp w0 _ (ABlk g (.cells #[x0, x1, x2, x3, z4, z5, z6, z7, z8, z9, z10] 58 (0, 0)) :: Ps) := h2.setBlk 3 x3
  have h4 : Hp w0 _ (ABlk g (.cells #[x0, x1, x2, x3, x4, z5, z6, z7, z8, z9, z10] 58 (0, 0)) :: Ps) := h3.setBlk 4 x4
  have h5 : Hp w0 _ (ABlk g (.cells #[x0, x1, x2, x3, x4, x5, z6, z7, z8, z9, z10] 58 (0, 0)) :: Ps) := h4.setBlk 5 x5
  have h6 : Hp w0 _ (ABlk g (.cells #[x0, x1, x2, x3, x4, x5, x6, z7, z8, z9, z10] 58 (0, 0)) :: Ps) := h5.setBlk 6 x6
  have h7 : Hp w0 _ (ABlk g (.cells #[x0, x1, x2, x3, x4, x5, x6, x7, z8, z9, z10] 58 (0, 0)) :: Ps) := h6.setBlk 7 x7
  have h8 : Hp w0 _ (ABlk g (.cells #[x0, x1, x2, x3, x4, x5, x6, x7, x8, z9, z10] 58 (0, 0)) :: Ps) := h7.setBlk 8 x8
  have h9 : Hp w0 _ (ABlk g (.cells #[x0, x1, x2, x3, x4, x5, x6, x7, x8, x9, z10] 58 (0, 0)) :: Ps) := h8.setBlk 9 x9
  have h10 : Hp w0 _ (ABlk g (.cells #[x0, x1, x2, x3, x4, x5, x6, x7, x8, x9, x10] 58 (0, 0)) :: Ps) := h9.setBlk 10 x10
  exact h10
set_option maxHeartbeats 3200000 in
set_option maxRecDepth 100000 in
theorem Hp.refExt {A A2 : Option Addr} {n c n2 c2' T : Nat} (h : Hp w0 w (ADm (.slice A n c) ρ.l :: Ps)) (hi : QInv ρ T) (hok : ∀ m ∈ ρ.l, dmOk m) (s : ByteArray) (vis : Int) :
    Calls Tryz.prog 56 #[ρ.val (.slice A n c) (.slice A2 n2 c2'), .string s, .int .i64 vis] w fun e w' => ∃ A' n' c', e = .returned (.tuple #[(qExt ρ s vis).1.val (.slice A' n' c') (.slice A2 n2 c2'), .int .i64 (qExt ρ s vis).2]) ∧ Hp w0 w' (ADm (.slice A' n' c') (qExt ρ s vis).1.l :: Ps) := by
  obtain ⟨a, now, next, l, k⟩ := ρ
  have HI := Lib.hid hi
  have HOK := Lib.hid hok
  have H := Lib.hid h
  have HB := Lib.hid (h.alloc (.cells #[.int .i64 a.vis, .int .i64 a.ret, .int .i64 a.del, .int .i64 a.win, .int .i64 a.max, .string a.dead, .bool a.fifo, .int .i64 now, .int .i64 next, .slice A n c, .slice A2 n2 c2'] 58))
  have HZ := Lib.hid (HB.out.alloc (.cells #[.int .i64 0, .int .i64 0, .int .i64 0, .int .i64 0, .int .i64 0, .string ⟨#[]⟩, .bool false, .int .i64 0, .int .i64 0, .slice none 0 0, .slice none 0 0] 58))
  have hsz1 : (w.alloc (.cells #[.int .i64 a.vis, .int .i64 a.ret, .int .i64 a.del, .int .i64 a.win, .int .i64 a.max, .string a.dead, .bool a.fifo, .int .i64 now, .int .i64 next, .slice A n c, .slice A2 n2 c2'] 58)).heap.size = w.heap.size + 1 := by simp
  rw [hsz1] at HZ
  clear hsz1
  obtain ⟨c0, c1, c2, c3, c4, c5, c6, c7, c8, c9, c10, cf⟩ := blk11 HZ.out.blk1
  have zf := (blk11 HZ.out.blk0).2.2.2.2.2.2.2.2.2.2.2
  unfold Qs.val
  clear h hi hok
  by_cases hv : 0 ≤ vis ∧ vis ≤ 1048576
  case neg =>
    have hE := Lib.hid (show qExt ⟨a, now, next, l, k⟩ s vis = (⟨a, now, next, l, k⟩, 1) by unfold qExt; rw [if_neg hv])
    rw [hE.out]
    have hc : vis < 0 ∨ (¬ vis < 0 ∧ 1048576 < vis) := by omega
    clear hv
    rw [doc_cells]
    dsimp only
    rcases hc with h1 | ⟨h1, h2⟩
    all_goals
      go_enter Tryz.func56, Tryz.ntmps56
      go_wp2_with fail
      exact bodyPost_ret (v := .tuple #[.agg #[.int .i64 a.vis, .int .i64 a.ret, .int .i64 a.del, .int .i64 a.win, .int .i64 a.max, .string a.dead, .bool a.fifo, .int .i64 now, .int .i64 next, .slice A n c, .slice A2 n2 c2'], .int .i64 1]) (by simp [results, Tryz.results56, go_sem]) rfl ⟨A, n, c, rfl, H.out.below (below_alloc (below_alloc (Below.refl _ _) _) _)⟩
  have h1 : ¬ vis < 0 := by omega
  have h2 : ¬ 1048576 < vis := by omega
  have hRD := Kd.R_reads' H.out.head
  have hCD : KDm.C w A n (l.map Msg.doc) := by rw [hRD.1]; exact hRD.2.2
  have hBY := fun (w' : World) (hB : Below w.heap.size w w') => refBy_any ⟨a, now, next, l, k⟩ A n c (.slice A2 n2 c2') s w' (Kd.C_below hCD hB) HOK.out
  unfold Qs.val at hBY
  rw [doc_cells] at hBY
  have HBY := Lib.hid hBY
  have HCD := Lib.hid hCD
  clear hBY hRD hCD
  rcases refAt_cases l s with ⟨k1, k2⟩ | ⟨i, m, k1, k2, k3⟩
  · have hE := Lib.hid (show qExt ⟨a, now, next, l, k⟩ s vis = (⟨a, now, next, l, k⟩, 8) by
      unfold qExt
      rw [if_pos hv, show qBy ⟨a, now, next, l, k⟩ s = none from k2])
    rw [hE.out]
    obtain ⟨r, hr⟩ : ∃ r, r = refAt l s := ⟨_, rfl⟩
    rw [← hr] at k1
    have HRR := Lib.hid hr
    rw [doc_cells]
    dsimp only
    clear hv k2 hr
    go_enter Tryz.func56, Tryz.ntmps56
    go_wp2_with fail
    refine Calls.mono (HBY.out _ (below_alloc (below_alloc (Below.refl _ _) _) _)) ?_
    rintro e w2 ⟨rfl, hB⟩
    rw [← HRR.out]
    have HP2 := Lib.hid (HZ.out.below hB)
    clear c0 c1 c2 c3 c4 c5 c6 c7 c8 c9 c10 cf zf hB
    obtain ⟨c0, c1, c2, c3, c4, c5, c6, c7, c8, c9, c10, cf⟩ := blk11 HP2.out.blk1
    obtain ⟨z0, z1, z2, z3, z4, z5, z6, z7, z8, z9, z10, zf⟩ := blk11 HP2.out.blk0
    go_wp2_with fail
    have hW := HP2.out.set11 (.int .i64 a.vis) (.int .i64 a.ret) (.int .i64 a.del) (.int .i64 a.win) (.int .i64 a.max) (.string a.dead) (.bool a.fifo) (.int .i64 now) (.int .i64 next) (.slice A n c) (.slice A2 n2 c2')
    generalize (((((((((((w2.setCell ⟨w.heap.size + 1, 0, none⟩ (.int .i64 a.vis)).setCell ⟨w.heap.size + 1, 1, none⟩ (.int .i64 a.ret)).setCell ⟨w.heap.size + 1, 2, none⟩ (.int .i64 a.del)).setCell ⟨w.heap.size + 1, 3, none⟩ (.int .i64 a.win)).setCell ⟨w.heap.size + 1, 4, none⟩ (.int .i64 a.max)).setCell ⟨w.heap.size + 1, 5, none⟩ (.string a.dead)).setCell ⟨w.heap.size + 1, 6, none⟩ (.bool a.fifo)).setCell ⟨w.heap.size + 1, 7, none⟩ (.int .i64 now)).setCell ⟨w.heap.size + 1, 8, none⟩ (.int .i64 next)).setCell ⟨w.heap.size + 1, 9, none⟩ (.slice A n c)).setCell ⟨w.heap.size + 1, 10, none⟩ (.slice A2 n2 c2')) = W at *
    have d := blk11 hW.blk0
    obtain ⟨d0, d1, d2, d3, d4, d5, d6, d7, d8, d9, d10, _⟩ := d
    exact bodyPost_ret (v := .tuple #[.agg #[.int .i64 a.vis, .int .i64 a.ret, .int .i64 a.del, .int .i64 a.win, .int .i64 a.max, .string a.dead, .bool a.fifo, .int .i64 now, .int .i64 next, .slice A n c, .slice A2 n2 c2'], .int .i64 8]) (by simp [results, Tryz.results56, go_sem, d0, d1, d2, d3, d4, d5, d6, d7, d8, d9, d10]) rfl ⟨A, n, c, rfl, hW.tail.tail⟩
  · have hm := k2
    have hu := map_set HI.out.rise k2 (fun x => { x with leased := true, till := now + vis })
    have hu2 := map_set HI.out.rise k2 (fun x => { x with leased := false, till := 0, at_ := now })
    have hnow := HI.out.now
    have hll := HI.out.len
    obtain ⟨m', hm'⟩ : ∃ m' : Msg, m' = if 0 < vis then { m with leased := true, till := now + vis } else { m with leased := false, till := 0, at_ := now } := ⟨_, rfl⟩
    have hE := Lib.hid (show qExt ⟨a, now, next, l, k⟩ s vis = (⟨a, now, next, l.set i m', k⟩, 0) by
      unfold qExt
      rw [if_pos hv, show qBy ⟨a, now, next, l, k⟩ s = some m from k3, hm']
      dsimp only
      by_cases h0 : 0 < vis
      · rw [if_pos h0, if_pos h0]
        unfold qLast
        dsimp only
        rw [hu]
      · rw [if_neg h0, if_neg h0]
        unfold qEnd
        dsimp only
        rw [hu2])
    have HD := Lib.hid (show m'.doc = (m.id, (m.sent, (m.count, (now + vis, (decide (0 < vis), (m.body, m.group)))))) by
      rw [hm']
      by_cases h0 : 0 < vis
      · rw [if_pos h0, decide_eq_true h0]
        rfl
      · rw [if_neg h0, decide_eq_false h0]
        have : vis = 0 := by omega
        subst this
        unfold Msg.doc Msg.time
        simp)
    rw [hE.out]
    have HRR := Lib.hid k1
    have HM := Lib.hid k2
    obtain ⟨ad, mm, rfl, hmm, _⟩ := C_nth_dm HCD.out i (by have h5 := (List.getElem?_eq_some_iff.1 k2).1; have h6 := Kd.C_len HCD.out; rw [List.length_map] at h6; omega)
    have hlt : i < l.length := (List.getElem?_eq_some_iff.1 k2).1
    have hnl : l.length = n := by have h6 := Kd.C_len HCD.out; rw [List.length_map] at h6; exact h6
    have HNL := Lib.hid hnl
    have HLL := Lib.hid (show l.length ≤ 1024 from hll)
    have HLT := Lib.hid hlt
    rw [doc_cells]
    dsimp only
    have i0 : ¬ (i : Int) < 0 := by omega
    have i1 : (0 : Int) ≤ (i : Int) := by omega
    have i2 : (i : Int) < (n : Int) := by omega
    have hsum : IntKind.i64.wrap (now + vis) = now + vis := IntWalk.i64_in _ (by dsimp only at hnow; omega)
    have HSUM := Lib.hid hsum
    clear hv k1 k2 k3 hm hu hu2 hm' hmm hnl hll hlt
    go_enter Tryz.func56, Tryz.ntmps56
    go_wp2_with fail
    refine Calls.mono (HBY.out _ (below_alloc (below_alloc (Below.refl _ _) _) _)) ?_
    rintro e w2 ⟨rfl, hB⟩
    rw [HRR.out]
    have HP2 := Lib.hid (HZ.out.below hB)
    have HBW := Lib.hid ((below_alloc (below_alloc (Below.refl _ _) _) _ : Below w.heap.size w _).trans (hB.mono (by simp; omega)))
    clear c0 c1 c2 c3 c4 c5 c6 c7 c8 c9 c10 cf zf hB hsum
    obtain ⟨c0, c1, c2, c3, c4, c5, c6, c7, c8, c9, c10, cf⟩ := blk11 HP2.out.blk1
    have HP3 := Lib.hid (HP2.out.swap.alloc (.cells #[] 111))
    have p9 : (w2.alloc (.cells #[] 111)).cell? ⟨w.heap.size, 9, none⟩ = some (.slice (some ad) n c) := (blk11 HP3.out.blk1).2.2.2.2.2.2.2.2.2.1
    have hC2 := Lib.hid (Kd.C_alloc (Kd.C_below HCD.out HBW.out) (.cells #[] 111))
    go_wp2_with (at_builtin; refine Kd.R_append_rows KDm (w0 := w2) w2.heap.size rfl (.tmp 23) (.tmp 25) 55 111 (.agg #[.int .i64 0, .int .i64 0, .int .i64 0, .int .i64 0, .bool false, .string ⟨#[]⟩, .string ⟨#[]⟩]) 72 rfl Tryz.underlying55 info_dm rfl (by decide) (by omega) (.slice (some ⟨w2.heap.size, 0, none⟩) 0 0) [] (l.map Msg.doc) (some ad) n c (fun _ => True) (fun _ => False) rfl rfl ?a1 ?a2 (fun _ _ h => h) (fun _ h => h.elim) (fun _ _ => trivial) (below_alloc (Below.refl _ _) _) ?a3 ?a4 ?a5)
    case a1 => exact R_empty _ _ _ _ _ (Nat.le_refl _) trivial
    case a2 => exact hC2.out
    case a3 => simp
    case a4 =>
      have := HLL.out
      have := HNL.out
      simp
      omega
    case a5 =>
      intro v1 w3 hR3 hB3 _ _
      obtain ⟨A', c9', hv⟩ := Kd.R_slice hR3
      rw [List.length_map, HNL.out] at hv
      subst hv
      have hRR := Kd.R_reads' hR3
      have HP4 := Lib.hid (HP2.out.swap.row hB3 hR3)
      obtain ⟨q, m1, rfl, hm1, _⟩ := C_nth_dm hRR.2.2 i (by rw [List.length_map]; exact HLT.out)
      have hx : (l.map Msg.doc)[i]? = some m.doc := by rw [List.getElem?_map, HM.out]; rfl
      have e3 := HP4.out.dmCell hx (f := 3) (by decide) rfl
      have e4 := HP4.out.dmCell hx (f := 4) (by decide) rfl
      obtain ⟨f3, hP5⟩ := HP4.out.dmPutA hx (f := 3) (x' := (m.id, (m.sent, (m.count, (now + vis, (m.leased, (m.body, m.group))))))) (u := .int .i64 (now + vis)) (by decide) rfl
      have hx2 : ((l.map Msg.doc).set i (m.id, (m.sent, (m.count, (now + vis, (m.leased, (m.body, m.group)))))))[i]? = some (m.id, (m.sent, (m.count, (now + vis, (m.leased, (m.body, m.group)))))) := by
        rw [List.getElem?_set_self (by rw [List.length_map]; exact HLT.out)]
      have g4 := hP5.dmCell hx2 (f := 4) (by decide) rfl
      obtain ⟨f4, hP6⟩ := hP5.dmPutA hx2 (f := 4) (x' := m'.doc) (u := .bool (decide (0 < vis))) (by decide) (by rw [HD.out]; rfl)
      rw [List.set_set] at hP6
      have hmd : (l.map Msg.doc).set i m'.doc = (l.set i m').map Msg.doc := by rw [List.map_set]
      rw [hmd] at hP6
      have HP6 := Lib.hid hP6
      obtain ⟨b0, b1, b2, b3, b4, b5, b6, b7, b8, b9, b10, bf⟩ := blk11 HP4.out.blk1
      have p7 := (blk11 hP5.blk1).2.2.2.2.2.2.2.1
      have HP7 := Lib.hid (show Hp w0 (((w3.setCell ⟨(q.add (i * 7)).block, (q.add (i * 7)).off + 3, none⟩ (.int .i64 (now + vis))).setCell ⟨(q.add (i * 7)).block, (q.add (i * 7)).off + 4, none⟩ (.bool (decide (0 < vis)))).setCell ⟨w.heap.size, 9, none⟩ (.slice (some q) n c9')) (ABlk w.heap.size (.cells #[.int .i64 a.vis, .int .i64 a.ret, .int .i64 a.del, .int .i64 a.win, .int .i64 a.max, .string a.dead, .bool a.fifo, .int .i64 now, .int .i64 next, .slice (some q) n c9', .slice A2 n2 c2'] 58) :: _) from HP6.out.swap.setBlk 9 (.slice (some q) n c9'))
      obtain ⟨t0, t1, t2, t3, t4, t5, t6, t7, t8, t9, t10, tf⟩ := blk11 HP7.out.blk0
      obtain ⟨z0, z1, z2, z3, z4, z5, z6, z7, z8, z9, z10, zf⟩ := blk11 HP7.out.up2.blk0
      have bf9 := bf 9
      have p9b := (blk11 HP6.out.blk1).2.2.2.2.2.2.2.2.2.1
      have pf9 := (blk11 HP6.out.blk1).2.2.2.2.2.2.2.2.2.2.2 9
      clear hRR hR3 hB3 hm1 hx hx2 hmd hP5 hP6 p9 c0 c1 c2 c3 c4 c5 c6 c7 c8 c9 c10 cf
      have w1 := HSUM.out
      go_wp2_with fail
      have hW := HP7.out.up2.set11 (.int .i64 a.vis) (.int .i64 a.ret) (.int .i64 a.del) (.int .i64 a.win) (.int .i64 a.max) (.string a.dead) (.bool a.fifo) (.int .i64 now) (.int .i64 next) (.slice (some q) n c9') (.slice A2 n2 c2')
      generalize ((((((((((((((w3.setCell ⟨(q.add (i * 7)).block, (q.add (i * 7)).off + 3, none⟩ (.int .i64 (now + vis))).setCell ⟨(q.add (i * 7)).block, (q.add (i * 7)).off + 4, none⟩ (.bool (decide (0 < vis)))).setCell ⟨w.heap.size, 9, none⟩ (.slice (some q) n c9')).setCell ⟨w.heap.size + 1, 0, none⟩ (.int .i64 a.vis)).setCell ⟨w.heap.size + 1, 1, none⟩ (.int .i64 a.ret)).setCell ⟨w.heap.size + 1, 2, none⟩ (.int .i64 a.del)).setCell ⟨w.heap.size + 1, 3, none⟩ (.int .i64 a.win)).setCell ⟨w.heap.size + 1, 4, none⟩ (.int .i64 a.max)).setCell ⟨w.heap.size + 1, 5, none⟩ (.string a.dead)).setCell ⟨w.heap.size + 1, 6, none⟩ (.bool a.fifo)).setCell ⟨w.heap.size + 1, 7, none⟩ (.int .i64 now)).setCell ⟨w.heap.size + 1, 8, none⟩ (.int .i64 next)).setCell ⟨w.heap.size + 1, 9, none⟩ (.slice (some q) n c9')).setCell ⟨w.heap.size + 1, 10, none⟩ (.slice A2 n2 c2')) = W at *
      obtain ⟨d0, d1, d2, d3, d4, d5, d6, d7, d8, d9, d10, _⟩ := blk11 hW.blk0
      exact bodyPost_ret (v := .tuple #[.agg #[.int .i64 a.vis, .int .i64 a.ret, .int .i64 a.del, .int .i64 a.win, .int .i64 a.max, .string a.dead, .bool a.fifo, .int .i64 now, .int .i64 next, .slice (some q) n c9', .slice A2 n2 c2'], .int .i64 0]) (by simp [results, Tryz.results56, go_sem, d0, d1, d2, d3, d4, d5, d6, d7, d8, d9, d10]) rfl ⟨some q, n, c9', rfl, hW.tail.tail.drop1⟩
end
end Go.Proofs.YtoclcmnphdgfpaaGreatDoor
set_option linter.unusedVariables false
set_option linter.unusedSimpArgs false
namespace Go.Proofs.YtoclcmnphdgfpaaGreatDoor
open Go.RowKit Go.Maps Go.Proofs.YtoclcmnphdgfpaaGreatDoorW.PrintWords Go.Proofs.YtoclcmnphdgfpaaGreatDoorW.PrintLast
theorem drop_out {l : List Msg} {i : Nat} {m : Msg} (hr : l.Pairwise (fun a b => a.id < b.id)) (hm : l[i]? = some m) : l.filter (fun x => decide (x.id ≠ m.id)) = l.take i ++ l.drop (i + 1) := by
  have hi : i < l.length := (List.getElem?_eq_some_iff.1 hm).1
  have hs : l = l.take i ++ m :: l.drop (i + 1) := by
    have e1 : l[i] = m := (List.getElem?_eq_some_iff.1 hm).2
    rw [← e1, ← List.drop_eq_getElem_cons hi, List.take_append_drop]
  have hp := hr
  rw [hs, List.pairwise_append, List.pairwise_cons] at hp
  obtain ⟨_, ⟨h2, _⟩, h3⟩ := hp
  conv => lhs; rw [hs]
  rw [List.filter_append, List.filter_cons_of_neg (by simp), List.filter_eq_self.2, List.filter_eq_self.2]
  · intro x hx
    have := h2 x hx
    rw [decide_eq_true_iff]
    omega
  · intro x hx
    have := h3 x hx m List.mem_cons_self
    rw [decide_eq_true_iff]
    omega
section
variable {w0 w : World} {ρ : Qs} {Ps : List Asn}
set_option maxHeartbeats 3200000 in
set_option maxRecDepth 100000 in
theorem Hp.refAck {A A2 : Option Addr} {n c n2 c2' T : Nat} (h : Hp w0 w (ADm (.slice A n c) ρ.l :: Ps)) (hi : QInv ρ T) (hok : ∀ m ∈ ρ.l, dmOk m) (s : ByteArray) :
    Calls Tryz.prog 55 #[ρ.val (.slice A n c) (.slice A2 n2 c2'), .string s] w fun e w' => ∃ A' n' c', e = .returned (.tuple #[(qAck ρ s).1.val (.slice A' n' c') (.slice A2 n2 c2'), .int .i64 (qAck ρ s).2.1, .int .i64 (qAck ρ s).2.2]) ∧ Hp w0 w' (ADm (.slice A' n' c') (qAck ρ s).1.l :: Ps) := by
  obtain ⟨a, now, next, l, k⟩ := ρ
  have HI := Lib.hid hi
  have HOK := Lib.hid hok
  have H := Lib.hid h
  have HB := Lib.hid (h.alloc (.cells #[.int .i64 a.vis, .int .i64 a.ret, .int .i64 a.del, .int .i64 a.win, .int .i64 a.max, .string a.dead, .bool a.fifo, .int .i64 now, .int .i64 next, .slice A n c, .slice A2 n2 c2'] 58))
  have HZ := Lib.hid (HB.out.alloc (.cells #[.int .i64 0, .int .i64 0, .int .i64 0, .int .i64 0, .int .i64 0, .string ⟨#[]⟩, .bool false, .int .i64 0, .int .i64 0, .slice none 0 0, .slice none 0 0] 58))
  have hsz1 : (w.alloc (.cells #[.int .i64 a.vis, .int .i64 a.ret, .int .i64 a.del, .int .i64 a.win, .int .i64 a.max, .string a.dead, .bool a.fifo, .int .i64 now, .int .i64 next, .slice A n c, .slice A2 n2 c2'] 58)).heap.size = w.heap.size + 1 := by simp
  rw [hsz1] at HZ
  clear hsz1
  obtain ⟨c0, c1, c2, c3, c4, c5, c6, c7, c8, c9, c10, cf⟩ := blk11 HZ.out.blk1
  unfold Qs.val
  clear h hi hok
  have hRD := Kd.R_reads' H.out.head
  have hCD : KDm.C w A n (l.map Msg.doc) := by rw [hRD.1]; exact hRD.2.2
  have hnc := hRD.2.1
  have hBY := fun (w' : World) (hB : Below w.heap.size w w') => refBy_any ⟨a, now, next, l, k⟩ A n c (.slice A2 n2 c2') s w' (Kd.C_below hCD hB) HOK.out
  unfold Qs.val at hBY
  rw [doc_cells] at hBY
  have HBY := Lib.hid hBY
  have HCD := Lib.hid hCD
  have HNC := Lib.hid hnc
  clear hBY hRD hCD hnc
  rcases refAt_cases l s with ⟨k1, k2⟩ | ⟨i, m, k1, k2, k3⟩
  · have hE := Lib.hid (show qAck ⟨a, now, next, l, k⟩ s = (⟨a, now, next, l, k⟩, (0, 8)) by
      unfold qAck
      rw [show qBy ⟨a, now, next, l, k⟩ s = none from k2])
    rw [hE.out]
    obtain ⟨r, hr⟩ : ∃ r, r = refAt l s := ⟨_, rfl⟩
    rw [← hr] at k1
    have HRR := Lib.hid hr
    rw [doc_cells]
    dsimp only
    clear k2 hr
    go_enter Tryz.func55, Tryz.ntmps55
    go_wp2_with fail
    refine Calls.mono (HBY.out _ (below_alloc (below_alloc (Below.refl _ _) _) _)) ?_
    rintro e w2 ⟨rfl, hB⟩
    rw [← HRR.out]
    have HP2 := Lib.hid (HZ.out.below hB)
    clear c0 c1 c2 c3 c4 c5 c6 c7 c8 c9 c10 cf hB
    obtain ⟨c0, c1, c2, c3, c4, c5, c6, c7, c8, c9, c10, cf⟩ := blk11 HP2.out.blk1
    obtain ⟨z0, z1, z2, z3, z4, z5, z6, z7, z8, z9, z10, zf⟩ := blk11 HP2.out.blk0
    go_wp2_with fail
    have hW := HP2.out.set11 (.int .i64 a.vis) (.int .i64 a.ret) (.int .i64 a.del) (.int .i64 a.win) (.int .i64 a.max) (.string a.dead) (.bool a.fifo) (.int .i64 now) (.int .i64 next) (.slice A n c) (.slice A2 n2 c2')
    generalize (((((((((((w2.setCell ⟨w.heap.size + 1, 0, none⟩ (.int .i64 a.vis)).setCell ⟨w.heap.size + 1, 1, none⟩ (.int .i64 a.ret)).setCell ⟨w.heap.size + 1, 2, none⟩ (.int .i64 a.del)).setCell ⟨w.heap.size + 1, 3, none⟩ (.int .i64 a.win)).setCell ⟨w.heap.size + 1, 4, none⟩ (.int .i64 a.max)).setCell ⟨w.heap.size + 1, 5, none⟩ (.string a.dead)).setCell ⟨w.heap.size + 1, 6, none⟩ (.bool a.fifo)).setCell ⟨w.heap.size + 1, 7, none⟩ (.int .i64 now)).setCell ⟨w.heap.size + 1, 8, none⟩ (.int .i64 next)).setCell ⟨w.heap.size + 1, 9, none⟩ (.slice A n c)).setCell ⟨w.heap.size + 1, 10, none⟩ (.slice A2 n2 c2')) = W at *
    obtain ⟨d0, d1, d2, d3, d4, d5, d6, d7, d8, d9, d10, _⟩ := blk11 hW.blk0
    exact bodyPost_ret (v := .tuple #[.agg #[.int .i64 a.vis, .int .i64 a.ret, .int .i64 a.del, .int .i64 a.win, .int .i64 a.max, .string a.dead, .bool a.fifo, .int .i64 now, .int .i64 next, .slice A n c, .slice A2 n2 c2'], .int .i64 0, .int .i64 8]) (by simp [results, Tryz.results55, go_sem, d0, d1, d2, d3, d4, d5, d6, d7, d8, d9, d10]) rfl ⟨A, n, c, rfl, hW.tail.tail⟩
  · have hE := Lib.hid (show qAck ⟨a, now, next, l, k⟩ s = (⟨a, now, next, l.take i ++ l.drop (i + 1), k⟩, (m.id, 0)) by
      unfold qAck
      rw [show qBy ⟨a, now, next, l, k⟩ s = some m from k3]
      dsimp only
      unfold qDrop
      dsimp only
      rw [drop_out HI.out.rise k2])
    have hll : l.length ≤ 1024 := HI.out.len
    rw [hE.out]
    obtain ⟨ys, hys⟩ : ∃ ys, ys = l.take i ++ l.drop (i + 1) := ⟨_, rfl⟩
    rw [← hys]
    have HYS := Lib.hid (show ys.map Msg.doc = [] ++ (l.map Msg.doc).take i ++ (l.map Msg.doc).drop (i + 1) by rw [hys, List.map_append, List.map_take, List.map_drop]; rfl)
    obtain ⟨n8, hn8⟩ : ∃ n8, n8 = (ys.map Msg.doc).length := ⟨_, rfl⟩
    have HN8 := Lib.hid hn8
    clear hys hn8
    have HRR := Lib.hid k1
    obtain ⟨ad, mm, rfl, hmm, _⟩ := C_nth_dm HCD.out i (by have h5 := (List.getElem?_eq_some_iff.1 k2).1; have h6 := Kd.C_len HCD.out; rw [List.length_map] at h6; omega)
    have hlt : i < l.length := (List.getElem?_eq_some_iff.1 k2).1
    have hnl : l.length = n := by have h6 := Kd.C_len HCD.out; rw [List.length_map] at h6; exact h6
    have HM := Lib.hid k2
    have HNL := Lib.hid hnl
    have HLL := Lib.hid (show l.length ≤ 1024 from hll)
    have HLT := Lib.hid hlt
    rw [doc_cells]
    dsimp only
    have i0 : ¬ (i : Int) < 0 := by omega
    have i1 : (0 : Int) ≤ (i : Int) := by omega
    have i2 : (i : Int) < (n : Int) := by omega
    have hwr : IntKind.i64.wrap ((i : Int) + 1) = (i : Int) + 1 := IntWalk.i64_in _ (by omega)
    clear k1 k2 k3 hmm hnl hll hlt
    go_enter Tryz.func55, Tryz.ntmps55
    go_wp2_with fail
    refine Calls.mono (HBY.out _ (below_alloc (below_alloc (Below.refl _ _) _) _)) ?_
    rintro e w2 ⟨rfl, hB⟩
    rw [HRR.out]
    have HP2 := Lib.hid (HZ.out.below hB)
    have HBW := Lib.hid ((below_alloc (below_alloc (Below.refl _ _) _) _ : Below w.heap.size w _).trans (hB.mono (by simp; omega)))
    clear c0 c1 c2 c3 c4 c5 c6 c7 c8 c9 c10 cf hB
    have hC2 := Kd.C_below HCD.out HBW.out
    obtain ⟨ad', m1, hae, hm1, e0, _⟩ := C_nth_dm hC2 i (by have := HNL.out; have := HLT.out; omega)
    obtain rfl : ad = ad' := Option.some.inj hae
    obtain rfl : m = m1 := Option.some.inj (HM.out.symm.trans hm1)
    have c9 : w2.cell? ⟨w.heap.size, 9, none⟩ = some (.slice (some ad) n c) := (blk11 HP2.out.blk1).2.2.2.2.2.2.2.2.2.1
    obtain ⟨i9, hi9, hz0, hz1, hz2⟩ := info_parts info_dm
    have hlen : (l.map Msg.doc).length = n := by rw [List.length_map]; exact HNL.out
    have HLN := Lib.hid hlen
    have hin : i ≤ n := by have := HNL.out; have := HLT.out; omega
    obtain ⟨hcut, hCt⟩ := take_row (P := Tryz.prog) 55 111 Tryz.underlying55 hi9 i hin HNC.out hC2
    have hC2' : KDm.C w2 (some ad) (l.map Msg.doc).length (l.map Msg.doc) := by rw [HLN.out]; exact hC2
    obtain ⟨A7, hcut2, hCd⟩ := drop_row (d := KDm) (P := Tryz.prog) 55 111 Tryz.underlying55 hi9 hz1 (some ad) c (i + 1) (l.map Msg.doc) (by have := HLN.out; have := HNL.out; have := HLT.out; omega) (by rw [HLN.out]; exact HNC.out) hC2'
    rw [HLN.out] at hcut2 hCd
    simp only [Int.natCast_add, Int.cast_ofNat_Int] at hcut2
    clear hae hm1 hlen hC2' hC2 hi9 hz0 hz1 hz2
    have hl1 : l.length ≤ 1024 := HLL.out
    have hpw := HP2.out.1.size
    have hn1 : n ≤ 1024 := by have := HNL.out; omega
    have hlt1 : i < l.length := HLT.out
    go_wp2_with fail
    refine start_ (n := 14) (S := fun w' => w'.cell? ⟨w.heap.size, 9, none⟩ = some (.slice (some ad) n c)) (ds := [13]) #[false, false, false, false, false, false, false, false, false, false, false, false, false, false] (by kernel_rfl) rfl rfl (show w2.drew.cell? ⟨w.heap.size, 9, none⟩ = some (.slice (some ad) n c) from c9) (fun hHeld => ?_)
    have HPd := Lib.hid (HP2.out.below (Below.refl _ _).drew)
    have HCt := Lib.hid (Kd.C_drew hCt)
    have HCd := Lib.hid (Kd.C_drew hCd)
    clear hCt hCd c9
    generalize w2.drew = wd at *
    have HS9 := Lib.hid hHeld
    refine pure_ (i := 1) (N := some 22) (v := ?_) (a' := ?_) #[false, true, false, false, false, false, false, false, false, false, false, false, false, false] rfl rfl (by kernel_rfl) (fun _ _ _ h => h) (Or.inl ⟨by rfl, ?_⟩) ?_ ?_
    rotate_left
    · intro w'
      go_simp
      with_reducible rfl
    rotate_left
    · simp only [Act.put, List.setIfInBounds_toArray, List.set_cons_zero, List.set_cons_succ, i64_w, i32_w]
      rfl
    refine pure_ (i := 3) (N := some 24) (v := ?_) (a' := ?_) #[false, true, false, true, false, false, false, false, false, false, false, false, false, false] rfl rfl (by kernel_rfl) (fun _ _ _ h => h) (Or.inl ⟨by rfl, ?_⟩) ?_ ?_
    rotate_left
    · intro w'
      go_simp
      with_reducible rfl
    rotate_left
    · simp only [Act.put, List.setIfInBounds_toArray, List.set_cons_zero, List.set_cons_succ, i64_w, i32_w]
      rfl
    refine pure_ (i := 6) (N := some 27) (v := ?_) (a' := ?_) #[false, true, false, true, false, false, true, false, false, false, false, false, false, false] rfl rfl (by kernel_rfl) (fun _ _ _ h => h) (Or.inl ⟨by rfl, ?_⟩) ?_ ?_
    rotate_left
    · intro w'
      go_simp
      with_reducible rfl
    rotate_left
    · simp only [Act.put, List.setIfInBounds_toArray, List.set_cons_zero, List.set_cons_succ, i64_w, i32_w]
      rfl
    refine pure_ (i := 8) (N := some 29) (v := ?_) (a' := ?_) #[false, true, false, true, false, false, true, false, true, false, false, false, false, false] rfl rfl (by kernel_rfl) (fun _ _ _ h => h) (Or.inl ⟨by rfl, ?_⟩) ?_ ?_
    rotate_left
    · intro w'
      go_simp
      with_reducible rfl
    rotate_left
    · simp only [Act.put, List.setIfInBounds_toArray, List.set_cons_zero, List.set_cons_succ, i64_w, i32_w]
      rfl
    refine pure_ (i := 9) (N := some 30) (v := ?_) (a' := ?_) #[false, true, false, true, false, false, true, false, true, true, false, false, false, false] rfl rfl (by kernel_rfl) (fun _ _ _ h => h) (Or.inl ⟨by rfl, ?_⟩) ?_ ?_
    rotate_left
    · intro w'
      go_simp
      with_reducible rfl
    rotate_left
    · simp only [Act.put, List.setIfInBounds_toArray, List.set_cons_zero, List.set_cons_succ, i64_w, i32_w]
      rfl
    refine take_ (i := 2) (N := some 23) (v := ?_) (a' := ?_) #[false, true, true, true, false, false, true, false, true, true, false, false, false, false] rfl rfl (by kernel_rfl) (fun _ _ _ h => h) (Or.inl ⟨by rfl, ?_⟩) hHeld ?_ ?_
    rotate_left
    · rintro w' s9
      go_simp
      with_reducible rfl
    rotate_left
    · simp only [Act.put, List.setIfInBounds_toArray, List.set_cons_zero, List.set_cons_succ, i64_w, i32_w]
      rfl
    refine pure_ (i := 4) (N := some 25) (v := ?_) (a' := ?_) #[false, true, true, true, true, false, true, false, true, true, false, false, false, false] rfl rfl (by kernel_rfl) (fun _ _ _ h => h) (Or.inl ⟨by rfl, ?_⟩) ?_ ?_
    rotate_left
    · intro w'
      go_simp
      with_reducible rfl
    rotate_left
    · simp only [Act.put, List.setIfInBounds_toArray, List.set_cons_zero, List.set_cons_succ, i64_w, i32_w]
      rfl
    refine take_ (i := 7) (N := some 28) (v := ?_) (a' := ?_) #[false, true, true, true, true, false, true, true, true, true, false, false, false, false] rfl rfl (by kernel_rfl) (fun _ _ _ h => h) (Or.inl ⟨by rfl, ?_⟩) hHeld ?_ ?_
    rotate_left
    · rintro w' s9
      go_simp
      with_reducible rfl
    rotate_left
    · simp only [Act.put, List.setIfInBounds_toArray, List.set_cons_zero, List.set_cons_succ, i64_w, i32_w]
      rfl
    refine pure_ (i := 10) (N := some 31) (v := ?_) (a' := ?_) #[false, true, true, true, true, false, true, true, true, true, true, false, false, false] rfl rfl (by kernel_rfl) (fun _ _ _ h => h) (Or.inl ⟨by rfl, ?_⟩) ?_ ?_
    rotate_left
    · intro w'
      go_simp
      with_reducible rfl
    rotate_left
    · simp only [Act.put, List.setIfInBounds_toArray, List.set_cons_zero, List.set_cons_succ, i64_w, i32_w]
      rfl
    refine one_ (i := 0) (N := some 21) #[true, true, true, true, true, false, true, true, true, true, true, false, false, false] rfl rfl (by kernel_rfl) (by decide) (fun K hK => ?_)
    refine Kd.R_lit_step KDm _ 111 ?hg (N := 21) ?hd (xs := ([] : List Dm)) (inner := []) (ok := fun _ => True) (okp := fun _ => True) ?hr ?hp (fun _ hk => hk) trivial (Below.refl _ _) (Nat.le_refl _) (by simp) ?_; (case hd => rfl); (case hg => rfl); (case hr => first | (go_simp; done) | (go_simp; rfl)); (case hp => exact (Reps.none _ _))
    intro v6 w6 hR6 hB6 _ _
    refine hK.out _ _ (cell_later hB6 hHeld) (fun hHeld => ?_)
    clear hK K
    refine norm_ (a' := ?_) ?_ ?_
    rotate_left
    · show Act.put _ (some 21) _ = _
      simp only [Act.put, List.setIfInBounds_toArray, List.set_cons_zero, List.set_cons_succ, i64_w, i32_w]
      rfl
    refine one_ (i := 5) (N := some 26) #[true, true, true, true, true, true, true, true, true, true, true, false, false, false] rfl rfl (by kernel_rfl) (by decide) (fun K hK => ?_)
    refine Kd.R_append_rows_step KDm (w0 := wd) wd.heap.size (by rfl) (.tmp 21) (.tmp 25) 55 111 (.agg #[.int .i64 0, .int .i64 0, .int .i64 0, .int .i64 0, .bool false, .string ⟨#[]⟩, .string ⟨#[]⟩]) 72 rfl Tryz.underlying55 info_dm rfl (by decide) (by omega) v6 [] ((l.map Msg.doc).take i) (some ad) i c (fun _ => True) (fun _ => False) rfl rfl hR6 (Kd.C_below HCt.out hB6) (fun _ _ h => h) (fun _ h => h.elim) (fun _ _ => trivial) hB6 hB6.size (by simp; omega) ?_
    intro v7 w7 hR7 hB7 _ _
    refine hK.out _ _ (cell_later hB7 HS9.out) (fun hHeld => ?_)
    clear hK K
    refine norm_ (a' := ?_) ?_ ?_
    rotate_left
    · show Act.put _ (some 26) _ = _
      simp only [Act.put, List.setIfInBounds_toArray, List.set_cons_zero, List.set_cons_succ, i64_w, i32_w]
      rfl
    refine one_ (i := 11) (N := some 32) #[true, true, true, true, true, true, true, true, true, true, true, true, false, false] rfl rfl (by kernel_rfl) (by decide) (fun K hK => ?_)
    refine Kd.R_append_rows_step KDm (w0 := wd) wd.heap.size (by rfl) (.tmp 26) (.tmp 31) 55 111 (.agg #[.int .i64 0, .int .i64 0, .int .i64 0, .int .i64 0, .bool false, .string ⟨#[]⟩, .string ⟨#[]⟩]) 72 rfl Tryz.underlying55 info_dm rfl (by decide) (by omega) v7 ([] ++ (l.map Msg.doc).take i) ((l.map Msg.doc).drop (i + 1)) A7 (n - (i + 1)) (c - (i + 1)) (fun _ => True) (fun _ => False) rfl rfl hR7 (Kd.C_below HCd.out hB7) (fun _ _ h => h) (fun _ h => h.elim) (fun _ _ => trivial) hB7 hB7.size (by simp; omega) ?_
    intro v8 w8 hR8 hB8 _ _
    rw [← HYS.out] at hR8
    obtain ⟨A8, c8, hv8⟩ := Kd.R_slice hR8
    rw [← HN8.out] at hv8
    subst hv8
    refine hK.out _ _ (cell_later hB8 HS9.out) (fun hHeld => ?_)
    clear hK K
    refine norm_ (a' := ?_) ?_ ?_
    rotate_left
    · show Act.put _ (some 32) _ = _
      simp only [Act.put, List.setIfInBounds_toArray, List.set_cons_zero, List.set_cons_succ, i64_w, i32_w]
      rfl
    refine pure_ (i := 12) (N := some 33) (v := ?_) (a' := ?_) #[true, true, true, true, true, true, true, true, true, true, true, true, true, false] rfl rfl (by kernel_rfl) (fun _ _ _ h => h) (Or.inl ⟨by rfl, ?_⟩) ?_ ?_
    rotate_left
    · intro w'
      go_simp
      with_reducible rfl
    rotate_left
    · simp only [Act.put, List.setIfInBounds_toArray, List.set_cons_zero, List.set_cons_succ, i64_w, i32_w]
      rfl
    have HP8 := Lib.hid (HPd.out.swap.row hB8 hR8)
    have HP9 := Lib.hid (show Hp w0 (w8.setCell ⟨w.heap.size, 9, none⟩ (.slice A8 n8 c8)) (ABlk w.heap.size (.cells #[.int .i64 a.vis, .int .i64 a.ret, .int .i64 a.del, .int .i64 a.win, .int .i64 a.max, .string a.dead, .bool a.fifo, .int .i64 now, .int .i64 next, .slice A8 n8 c8, .slice A2 n2 c2'] 58) :: _) from HP8.out.swap.setBlk 9 (.slice A8 n8 c8))
    have hf8 := (blk11 HP8.out.blk1).2.2.2.2.2.2.2.2.2.2.2 9
    refine last_ (i := 13) (N := none) #[true, true, true, true, true, true, true, true, true, true, true, true, true, true] rfl rfl (by kernel_rfl) (by decide) (fun K hK => ?_)
    refine skip_ (w1 := ?_) (by rfl) rfl ?_ ?_
    rotate_left
    · go_simp
      rfl
    refine hK.out _ _ ?_
    clear hK K
    refine done_ (by kernel_rfl) ?_
    obtain ⟨t0, t1, t2, t3, t4, t5, t6, t7, t8, t9, t10, tf⟩ := blk11 HP9.out.blk0
    obtain ⟨z0, z1, z2, z3, z4, z5, z6, z7, z8, z9, z10, zf⟩ := blk11 HP9.out.up2.blk0
    go_wp2_with fail
    have hW := HP9.out.up2.set11 (.int .i64 a.vis) (.int .i64 a.ret) (.int .i64 a.del) (.int .i64 a.win) (.int .i64 a.max) (.string a.dead) (.bool a.fifo) (.int .i64 now) (.int .i64 next) (.slice A8 n8 c8) (.slice A2 n2 c2')
    generalize ((((((((((((w8.setCell ⟨w.heap.size, 9, none⟩ (.slice A8 n8 c8)).setCell ⟨w.heap.size + 1, 0, none⟩ (.int .i64 a.vis)).setCell ⟨w.heap.size + 1, 1, none⟩ (.int .i64 a.ret)).setCell ⟨w.heap.size + 1, 2, none⟩ (.int .i64 a.del)).setCell ⟨w.heap.size + 1, 3, none⟩ (.int .i64 a.win)).setCell ⟨w.heap.size + 1, 4, none⟩ (.int .i64 a.max)).setCell ⟨w.heap.size + 1, 5, none⟩ (.string a.dead)).setCell ⟨w.heap.size + 1, 6, none⟩ (.bool a.fifo)).setCell ⟨w.heap.size + 1, 7, none⟩ (.int .i64 now)).setCell ⟨w.heap.size + 1, 8, none⟩ (.int .i64 next)).setCell ⟨w.heap.size + 1, 9, none⟩ (.slice A8 n8 c8)).setCell ⟨w.heap.size + 1, 10, none⟩ (.slice A2 n2 c2')) = W at *
    obtain ⟨d0, d1, d2, d3, d4, d5, d6, d7, d8, d9, d10, _⟩ := blk11 hW.blk0
    exact bodyPost_ret (v := .tuple #[.agg #[.int .i64 a.vis, .int .i64 a.ret, .int .i64 a.del, .int .i64 a.win, .int .i64 a.max, .string a.dead, .bool a.fifo, .int .i64 now, .int .i64 next, .slice A8 n8 c8, .slice A2 n2 c2'], .int .i64 m.id, .int .i64 0]) (by simp [results, Tryz.results55, go_sem, d0, d1, d2, d3, d4, d5, d6, d7, d8, d9, d10]) rfl ⟨A8, n8, c8, rfl, hW.tail.tail.drop1⟩
end
end Go.Proofs.YtoclcmnphdgfpaaGreatDoor
set_option linter.unusedVariables false
set_option linter.unusedSimpArgs false
namespace Go.Proofs.YtoclcmnphdgfpaaGreatDoor
open Go.RowKit Go.Maps Go.Proofs.YtoclcmnphdgfpaaGreatDoorW.PrintWords
/-- A sender's key, the number that it stands for, and until when. -/
abbrev Ky := ByteArray × (Int × Int)
def KKy : Kd Ky := Kd.pair Kd.string (Kd.pair (Kd.int .i64) (Kd.int .i64))
def Ky.cells (x : Ky) : List Value := [.string x.1, .int .i64 x.2.1, .int .i64 x.2.2]
theorem KKy_of (w : World) (base : Nat) (ok : Nat → Prop) (x : Ky) : KKy.M w base ok x (Ky.cells x) := ⟨[_], [_, _], rfl, rfl, [_], [_], rfl, rfl, rfl⟩
theorem KKy_inv {w : World} {x : Ky} {c : List Value} (h : KKy.K w x c) : c = Ky.cells x := by
  obtain ⟨c0, d0, rfl, h0, c1, d1, rfl, h1, h2⟩ := h
  have h0 : c0 = [.string x.1] := h0
  have h1 : c1 = [.int .i64 x.2.1] := h1
  have h2 : d1 = [.int .i64 x.2.2] := h2
  subst h0 h1 h2
  rfl
theorem C_nth_ky {w : World} {A : Option Addr} {n : Nat} {l : List Ky} (h : KKy.C w A n l) (k : Nat) (hk : k < n) :
    ∃ ad x, A = some ad ∧ l[k]? = some x ∧ w.cell? (ad.add (k * 3)) = some (.string x.1) ∧ w.cell? ⟨(ad.add (k * 3)).block, (ad.add (k * 3)).off + 1, none⟩ = some (.int .i64 x.2.1) ∧ w.cell? ⟨(ad.add (k * 3)).block, (ad.add (k * 3)).off + 2, none⟩ = some (.int .i64 x.2.2) := by
  obtain ⟨ad, x, c, hA, hx, _, hK, h3⟩ := C_nth h k hk
  have hc := KKy_inv hK
  subst hc
  have hsz : KKy.sz = 3 := rfl
  rw [hsz] at h3
  refine ⟨ad, x, hA, hx, h3 0 _ rfl, ?_, ?_⟩
  · have := h3 1 _ rfl; rw [← add_field ad _ 1 (by omega)]; exact this
  · have := h3 2 _ rfl; rw [← add_field ad _ 2 (by omega)]; exact this
theorem info_ky : (Tryz.prog.info? 144).map (fun i => (i.zero, i.size, i.bytes)) = some (some (.agg #[.string ⟨#[]⟩, .int .i64 0, .int .i64 0]), 3, 32) := by kernel_rfl
/-- A row of keys. -/
abbrev AKy (v : Value) (l : List Ky) : Asn := ARow KKy 144 v l
/-- No key of the first ones is this one. -/
def NoKey (k : ByteArray) (l : List Ky) (j : Nat) : Prop := ∀ (i : Nat) (x : Ky), i < j → l[i]? = some x → x.1 ≠ k
theorem NoKey.zero (k : ByteArray) (l : List Ky) : NoKey k l 0 := fun i _ h => absurd h (Nat.not_lt_zero i)
theorem NoKey.succ {k : ByteArray} {l : List Ky} {j : Nat} {x : Ky} (h : NoKey k l j) (hx : l[j]? = some x) (hn : x.1 ≠ k) : NoKey k l (j + 1) := by
  intro i y hi hy
  by_cases hij : i < j
  · exact h i y hij hy
  · obtain rfl : i = j := by omega
    obtain rfl : x = y := Option.some.inj (hx.symm.trans hy)
    exact hn
theorem NoKey.none {k : ByteArray} {l : List Ky} (h : NoKey k l l.length) : mget l k = none := by
  unfold mget
  rw [List.find?_eq_none.2]
  · rfl
  · intro x hx
    obtain ⟨i, hi, rfl⟩ := List.getElem_of_mem hx
    have := h i l[i] hi (List.getElem?_eq_getElem hi)
    simpa using this
theorem NoKey.found {k : ByteArray} {l : List Ky} {j : Nat} {x : Ky} (h : NoKey k l j) (hx : l[j]? = some x) (hk : x.1 = k) : mget l k = some x.2 := by
  obtain ⟨hj, he⟩ := List.getElem?_eq_some_iff.1 hx
  unfold mget
  rw [List.find?_eq_some_iff_getElem.2 ⟨by simpa using hk, j, hj, he, fun i hi => by
    have := h i l[i] hi (List.getElem?_eq_getElem (by omega))
    simpa using this⟩]
  rfl
end Go.Proofs.YtoclcmnphdgfpaaGreatDoor
set_option linter.unusedVariables false
set_option linter.unusedSimpArgs false
namespace Go.Proofs.YtoclcmnphdgfpaaGreatDoor
open Go.RowKit Go.Maps Go.Proofs.YtoclcmnphdgfpaaGreatDoorW.PrintWords
section
variable {w0 w : World} {ρ : Qs} {Ps : List Asn}
/-- A command that may not be sent. -/
theorem may_cases (a : QA) (body group key : ByteArray) (delay : Int) (h : qMaySend a body group key delay = false) :
    (256 < (body.size : Int)) ∨ (¬ 256 < (body.size : Int) ∧ 256 < (group.size : Int)) ∨ (¬ 256 < (body.size : Int) ∧ ¬ 256 < (group.size : Int) ∧ 256 < (key.size : Int)) ∨
    (¬ 256 < (body.size : Int) ∧ ¬ 256 < (group.size : Int) ∧ ¬ 256 < (key.size : Int) ∧ a.fifo = true ∧ group.size = 0) ∨
    (¬ 256 < (body.size : Int) ∧ ¬ 256 < (group.size : Int) ∧ ¬ 256 < (key.size : Int) ∧ a.fifo = true ∧ group.size ≠ 0 ∧ delay ≠ -1) ∨
    (¬ 256 < (body.size : Int) ∧ ¬ 256 < (group.size : Int) ∧ ¬ 256 < (key.size : Int) ∧ a.fifo = false ∧ group.size ≠ 0) ∨
    (¬ 256 < (body.size : Int) ∧ ¬ 256 < (group.size : Int) ∧ ¬ 256 < (key.size : Int) ∧ a.fifo = false ∧ group.size = 0 ∧ delay < -1) ∨
    (¬ 256 < (body.size : Int) ∧ ¬ 256 < (group.size : Int) ∧ ¬ 256 < (key.size : Int) ∧ a.fifo = false ∧ group.size = 0 ∧ ¬ delay < -1 ∧ 1048576 < delay) := by
  unfold qMaySend at h
  rw [Bool.and_eq_false_iff, decide_eq_false_iff_not] at h
  by_cases h1 : 256 < (body.size : Int)
  · exact .inl h1
  by_cases h2 : 256 < (group.size : Int)
  · exact .inr (.inl ⟨h1, h2⟩)
  by_cases h3 : 256 < (key.size : Int)
  · exact .inr (.inr (.inl ⟨h1, h2, h3⟩))
  refine .inr (.inr (.inr ?_))
  cases hf : a.fifo
  · have h4 : decide (group.size = 0 ∧ -1 ≤ delay ∧ delay ≤ 1048576) = false := by
      rcases h with h | h
      · omega
      · simpa [hf] using h
    rw [decide_eq_false_iff_not] at h4
    by_cases h5 : group.size = 0
    · by_cases h6 : delay < -1
      · exact .inr (.inr (.inr (.inl ⟨h1, h2, h3, rfl, h5, h6⟩)))
      · exact .inr (.inr (.inr (.inr ⟨h1, h2, h3, rfl, h5, h6, by omega⟩)))
    · exact .inr (.inr (.inl ⟨h1, h2, h3, rfl, h5⟩))
  · have h4 : decide (0 < group.size ∧ delay = -1) = false := by
      rcases h with h | h
      · omega
      · simpa [hf] using h
    rw [decide_eq_false_iff_not] at h4
    by_cases h5 : group.size = 0
    · exact .inl ⟨h1, h2, h3, rfl, h5⟩
    · exact .inr (.inl ⟨h1, h2, h3, rfl, h5, by omega⟩)
set_option maxHeartbeats 3200000 in
set_option maxRecDepth 100000 in
theorem Hp.refSendNot {A A2 : Option Addr} {n c n2 c2' : Nat} (h : Hp w0 w (ADm (.slice A n c) ρ.l :: AKy (.slice A2 n2 c2') ρ.k :: Ps)) (body group key : ByteArray) (delay : Int) (hm : qMaySend ρ.a body group key delay = false) :
    Calls Tryz.prog 52 #[ρ.val (.slice A n c) (.slice A2 n2 c2'), .string body, .string group, .string key, .int .i64 delay] w fun e w' => e = .returned (.tuple #[ρ.val (.slice A n c) (.slice A2 n2 c2'), .int .i64 0, .int .i64 1]) ∧ Hp w0 w' (ADm (.slice A n c) ρ.l :: AKy (.slice A2 n2 c2') ρ.k :: Ps) := by
  obtain ⟨a, now, next, l, k⟩ := ρ
  have H := Lib.hid h
  unfold Qs.val
  have hc := may_cases a body group key delay hm
  clear h hm
  rw [doc_cells]
  dsimp only
  have hie := isEmpty_size group
  obtain ⟨vis, ret, del, win, max, dead, fifo⟩ := a
  dsimp only at hc ⊢
  rcases hc with h1 | ⟨h1, h2⟩ | ⟨h1, h2, h3⟩ | ⟨h1, h2, h3, rfl, h5⟩ | ⟨h1, h2, h3, rfl, h5, h6⟩ | ⟨h1, h2, h3, rfl, h5⟩ | ⟨h1, h2, h3, rfl, h5, h6⟩ | ⟨h1, h2, h3, rfl, h5, h6, h7⟩
  all_goals
    try first
      | (rw [decide_eq_true h5] at hie; have hk0 := nil_size h5)
      | rw [decide_eq_false h5] at hie
    go_enter Tryz.func52, Tryz.ntmps52
    go_wp2_with fail
    exact bodyPost_ret (v := .tuple #[.agg #[.int .i64 vis, .int .i64 ret, .int .i64 del, .int .i64 win, .int .i64 max, .string dead, .bool _, .int .i64 now, .int .i64 next, .slice A n c, .slice A2 n2 c2'], .int .i64 0, .int .i64 1]) (by simp [results, Tryz.results52, go_sem]) rfl ⟨rfl, H.out.below (below_alloc (below_alloc (Below.refl _ _) _) _)⟩
end
end Go.Proofs.YtoclcmnphdgfpaaGreatDoor
