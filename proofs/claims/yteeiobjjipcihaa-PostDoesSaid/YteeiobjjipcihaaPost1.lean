/- One post alone, made since the call began (world w0): each call by what it tells and what is on its way behind it. -/
import Derived.Test.YteeiobjjipcihaaPostMoreInt
import Derived.Test.YteeiobjjipcihaaPostStr
namespace Go.Proofs.Yteeiobjjipcihaa
open Go.RowKit Go.Proofs.YteeiobjjipcihaaW.PrintWords

/-- A post made since w0; what was there then is as it was. -/
def P1 {α : Type} (d : Kd α) (e t : Nat) (w0 w : World) (p : Nat) (room : Int) (xs : List α) : Prop :=
  PostAt d e t w (fun k => w0.heap.size ≤ k) p room xs ∧ Below w0.heap.size w0 w
section
variable {α : Type} {d : Kd α} {e t : Nat} {w0 w w1 : World} {p : Nat} {room : Int} {xs : List α}
theorem P1.below (h : P1 d e t w0 w p room xs) (hb : Below w.heap.size w w1) : P1 d e t w0 w1 p room xs :=
  ⟨h.1.step (fun k _ hk => hb.block k hk), below_then h.2 h.2.size hb⟩
theorem P1.alloc (h : P1 d e t w0 w p room xs) (o : Obj) : P1 d e t w0 (w.alloc o) p room xs := h.below (below_alloc (Below.refl _ _) o)
theorem P1.drew (h : P1 d e t w0 w p room xs) : P1 d e t w0 w.drew p room xs := ⟨h.1.step (fun _ _ _ => rfl), h.2.drew⟩
theorem P1.keep (h : P1 d e t w0 w p room xs) {xs' : List α} (hP : PostAt d e t w1 (fun k => w0.heap.size ≤ k ∨ w.heap.size ≤ k) p room xs') (hK : Keep (fun k => k = p) w w1) : P1 d e t w0 w1 p room xs' :=
  ⟨hP.mono (fun k hk _ => by have := h.2.size; omega), hK.below h.2 h.2.size (fun _ _ hk => hk ▸ h.1.ok)⟩
end
theorem new1_int (n : Int) (w0 w : World) (h0 : n ≤ 9223372036854775807) (hB : Below w0.heap.size w0 w) :
    Calls Try.prog 13 #[.int .i64 n] w fun e w' => e = .returned (.pointer (some ⟨w.heap.size, 0, none⟩)) ∧ P1 (Kd.int .i64) 3 52 w0 w' w.heap.size (max n 0) [] :=
  (new_int n w h0).mono fun _ _ ⟨h1, h2, h3⟩ => ⟨h1, h2.mono (fun _ hk _ => Nat.le_trans hB.size hk), below_then hB hB.size h3⟩
theorem new1_str (n : Int) (w0 w : World) (h0 : n ≤ 9223372036854775807) (hB : Below w0.heap.size w0 w) :
    Calls Try.prog 9 #[.int .i64 n] w fun e w' => e = .returned (.pointer (some ⟨w.heap.size, 0, none⟩)) ∧ P1 Kd.string 9 49 w0 w' w.heap.size (max n 0) [] :=
  (new_str n w h0).mono fun _ _ ⟨h1, h2, h3⟩ => ⟨h1, h2.mono (fun _ hk _ => Nat.le_trans hB.size hk), below_then hB hB.size h3⟩
theorem send1_int {w0 w : World} {p : Nat} {room : Int} {xs ls : List Int} {A1 : Option Addr} {c1 n : Nat} (h : P1 (Kd.int .i64) 3 52 w0 w p room xs)
    (hC : (Kd.int .i64).C w A1 n ls) (hc : n ≤ c1) (hb : (xs.length + n) * 8 ≤ 140737488355328) {r : Nat} (hr : r = sendN room xs.length n) :
    Calls Try.prog 14 #[.pointer (some ⟨p, 0, none⟩), .slice A1 n c1] w fun e w' => e = .returned (.int .i64 r) ∧ P1 (Kd.int .i64) 3 52 w0 w' p room (xs ++ ls.take r) := by
  have hn := Kd.C_len hC
  subst hn
  subst hr
  exact (send_int p _ room xs ls A1 c1 w h.1 hC hc hb).mono fun _ _ ⟨h1, h2, h3⟩ => ⟨h1, h.keep h2 h3⟩
theorem send1_str {w0 w : World} {p : Nat} {room : Int} {xs ls : List ByteArray} {A1 : Option Addr} {c1 n : Nat} (h : P1 Kd.string 9 49 w0 w p room xs)
    (hC : Kd.string.C w A1 n ls) (hc : n ≤ c1) (hb : (xs.length + n) * 16 ≤ 140737488355328) {r : Nat} (hr : r = sendN room xs.length n) :
    Calls Try.prog 10 #[.pointer (some ⟨p, 0, none⟩), .slice A1 n c1] w fun e w' => e = .returned (.int .i64 r) ∧ P1 Kd.string 9 49 w0 w' p room (xs ++ ls.take r) := by
  have hn := Kd.C_len hC
  subst hn
  subst hr
  exact (send_str p _ room xs ls A1 c1 w h.1 hC hc hb).mono fun _ _ ⟨h1, h2, h3⟩ => ⟨h1, h.keep h2 h3⟩
theorem take1_int {w0 w : World} {p : Nat} {room k : Int} {xs : List Int} (h : P1 (Kd.int .i64) 3 52 w0 w p room xs) (hb : xs.length * 8 ≤ 140737488355328) {m : Int} {is : Bool} {ys : List Int}
    (hr : lookAt 0 xs k = (m, is)) (hy : takeOut xs k = ys) :
    Calls Try.prog 16 #[.pointer (some ⟨p, 0, none⟩), .int .i64 k] w fun e w' => e = .returned (.tuple #[.int .i64 m, .bool is]) ∧ P1 (Kd.int .i64) 3 52 w0 w' p room ys := by
  subst hy
  have := take_int p _ room xs k w h.1 hb
  rw [hr] at this
  exact this.mono fun _ _ ⟨h1, h2, h3⟩ => ⟨h1, h.keep h2 h3⟩
theorem lose1_int {w0 w : World} {p : Nat} {room k : Int} {xs : List Int} (h : P1 (Kd.int .i64) 3 52 w0 w p room xs) (hb : xs.length * 8 ≤ 140737488355328) {is : Bool} {ys : List Int}
    (hr : (lookAt 0 xs k).2 = is) (hy : takeOut xs k = ys) :
    Calls Try.prog 20 #[.pointer (some ⟨p, 0, none⟩), .int .i64 k] w fun e w' => e = .returned (.bool is) ∧ P1 (Kd.int .i64) 3 52 w0 w' p room ys := by
  subst hy
  subst hr
  exact (lose_int p _ room xs k w h.1 hb).mono fun _ _ ⟨h1, h2, h3⟩ => ⟨h1, h.keep h2 h3⟩
theorem all1_int {w0 w : World} {p : Nat} {room : Int} {xs : List Int} (h : P1 (Kd.int .i64) 3 52 w0 w p room xs) (hb : xs.length * 8 ≤ 140737488355328) {n : Nat} (hn : n = xs.length) :
    Calls Try.prog 17 #[.pointer (some ⟨p, 0, none⟩)] w fun e w' => ∃ A' c', e = .returned (.slice A' n c') ∧ (Kd.int .i64).C w' A' n xs ∧ n ≤ c' ∧ P1 (Kd.int .i64) 3 52 w0 w' p room xs := by
  subst hn
  refine (all_int p _ room xs w h.1 hb).mono fun _ w1 ⟨A', c', h1, h2, h3⟩ => ?_
  have h4 := Kd.R_reads' h2
  exact ⟨A', c', h1, h4.2.2, h4.2.1, h.below h3⟩
theorem send2_int {w0 w : World} {p : Nat} {room : Int} {xs ls : List Int} {A1 : Option Addr} {c1 n : Nat} (h : P1 (Kd.int .i64) 3 52 w0 w p room xs)
    (hC : (Kd.int .i64).C w A1 n ls) (hc : n ≤ c1) (hb : (xs.length + n) * 8 ≤ 140737488355328) {r : Nat} (hr : r = sendN room xs.length n) :
    Calls Try.prog 14 #[.pointer (some ⟨p, 0, none⟩), .slice A1 n c1] w fun e w' => e = .returned (.int .i64 r) ∧ P1 (Kd.int .i64) 3 52 w0 w' p room (xs ++ ls.take r) ∧ Keep (fun k => k = p) w w' := by
  have hn := Kd.C_len hC
  subst hn
  subst hr
  exact (send_int p _ room xs ls A1 c1 w h.1 hC hc hb).mono fun _ _ ⟨h1, h2, h3⟩ => ⟨h1, h.keep h2 h3, h3⟩
theorem take2_int {w0 w : World} {p : Nat} {room k : Int} {xs : List Int} (h : P1 (Kd.int .i64) 3 52 w0 w p room xs) (hb : xs.length * 8 ≤ 140737488355328) {m : Int} {is : Bool} {ys : List Int}
    (hr : lookAt 0 xs k = (m, is)) (hy : takeOut xs k = ys) :
    Calls Try.prog 16 #[.pointer (some ⟨p, 0, none⟩), .int .i64 k] w fun e w' => e = .returned (.tuple #[.int .i64 m, .bool is]) ∧ P1 (Kd.int .i64) 3 52 w0 w' p room ys ∧ Keep (fun k => k = p) w w' := by
  subst hy
  have := take_int p _ room xs k w h.1 hb
  rw [hr] at this
  exact this.mono fun _ _ ⟨h1, h2, h3⟩ => ⟨h1, h.keep h2 h3, h3⟩
theorem lose2_int {w0 w : World} {p : Nat} {room k : Int} {xs : List Int} (h : P1 (Kd.int .i64) 3 52 w0 w p room xs) (hb : xs.length * 8 ≤ 140737488355328) {is : Bool} {ys : List Int}
    (hr : (lookAt 0 xs k).2 = is) (hy : takeOut xs k = ys) :
    Calls Try.prog 20 #[.pointer (some ⟨p, 0, none⟩), .int .i64 k] w fun e w' => e = .returned (.bool is) ∧ P1 (Kd.int .i64) 3 52 w0 w' p room ys ∧ Keep (fun k => k = p) w w' := by
  subst hy
  subst hr
  exact (lose_int p _ room xs k w h.1 hb).mono fun _ _ ⟨h1, h2, h3⟩ => ⟨h1, h.keep h2 h3, h3⟩
theorem all2_int {w0 w : World} {p : Nat} {room : Int} {xs : List Int} (h : P1 (Kd.int .i64) 3 52 w0 w p room xs) (hb : xs.length * 8 ≤ 140737488355328) :
    Calls Try.prog 17 #[.pointer (some ⟨p, 0, none⟩)] w fun e w' => ∃ A' c', e = .returned (.slice A' xs.length c') ∧ (Kd.int .i64).C w' A' xs.length xs ∧ xs.length ≤ c' ∧ P1 (Kd.int .i64) 3 52 w0 w' p room xs ∧ Below w.heap.size w w' := by
  refine (all_int p _ room xs w h.1 hb).mono fun _ w1 ⟨A', c', h1, h2, h3⟩ => ?_
  have h4 := Kd.R_reads' h2
  exact ⟨A', c', h1, h4.2.2, h4.2.1, h.below h3, h3⟩

end Go.Proofs.Yteeiobjjipcihaa
