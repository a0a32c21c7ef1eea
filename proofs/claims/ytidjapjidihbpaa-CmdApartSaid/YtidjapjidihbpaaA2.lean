/- Put together: cmd.numbers, cmd.texts: rows of pointers into a command; number, text, and the closures of Right. · slices.IndexFunc and slices.ContainsFunc at one element type, with a closure that only reads. · slices.IndexFunc and slices.ContainsFunc at one element type, with a closure that only reads. · slices.IndexFunc and slices.ContainsFunc at one element type, with a closure that only reads. · slices.IndexFunc and slices.ContainsFunc at one element type, with a closure that only reads. · cmd.Right by its contract. · cmd.Write by its contract. · What is written is read in one way: a command's bytes tell the command. No program in it. · law08.Attr, law09.Cmd: the document's form of attributes and of a command is the same cells. -/
import Derived.Test.YtidjapjidihbpaaA1
import Derived.Deep.DeepCutAuto
import Derived.Deep.QuietTactic
import Derived.BigQuiet
import Derived.Laws.Rows
set_option linter.unusedVariables false
set_option linter.unusedSimpArgs false
namespace Go.Proofs.Ytidjapjidihbpaa
open Go.RowKit Go.Proofs.YtidjapjidihbpaaW.PrintWords

/-- Pointers into a block. -/
def KPtr (gb : Nat) : Kd Nat := Kd.scalar (fun off => Value.pointer (some ⟨gb, off, none⟩)) (fun _ => rfl)
def numAt : List Nat := [0, 1, 2, 16, 17, 4, 5, 6, 7, 8]
def textAt : List Nat := [3, 9, 11, 12, 13, 14]
theorem number_any (n : Int) (w : World) : Calls Try.prog 27 #[.int .i64 n] w fun e w' => e = .returned (.bool (decide (0 ≤ n ∧ n ≤ 4611686018427387904))) ∧ w = w' := by
  by_cases h0 : 0 ≤ n
  · by_cases h1 : n ≤ 4611686018427387904
    · rw [decide_eq_true ⟨h0, h1⟩]
      go_enter Try.func27, Try.ntmps27
      go_wp2
      go_ret
      exact ⟨rfl, rfl⟩
    · rw [decide_eq_false (fun h => h1 h.2)]
      go_enter Try.func27, Try.ntmps27
      go_wp2
      go_ret
      exact ⟨rfl, rfl⟩
  · rw [decide_eq_false (fun h => h0 h.1)]
    go_enter Try.func27, Try.ntmps27
    go_wp2
    go_ret
    exact ⟨rfl, rfl⟩
theorem text_any (s : ByteArray) (w : World) : Calls Try.prog 29 #[.string s] w fun e w' => e = .returned (.bool (decide (s.size ≤ 256))) ∧ w = w' := by
  by_cases h0 : s.size ≤ 256
  · have h1 : (s.size : Int) ≤ 256 := by omega
    rw [decide_eq_true h0]
    go_enter Try.func29, Try.ntmps29
    go_wp2
    go_ret
    exact ⟨rfl, rfl⟩
  · have h1 : ¬ (s.size : Int) ≤ 256 := by omega
    rw [decide_eq_false h0]
    go_enter Try.func29, Try.ntmps29
    go_wp2
    go_ret
    exact ⟨rfl, rfl⟩
theorem ptr_new (gb t : Nat) (w : World) (offs : List Nat) (hl : offs.length ≤ 100) : (KPtr gb).C (w.alloc (.cells (offs.map (fun off => Value.pointer (some ⟨gb, off, none⟩))).toArray t)) (some ⟨w.heap.size, 0, none⟩) offs.length offs :=
  C_block (heap_alloc_new w _) offs (by simp [List.toList_toArray]) (by omega)
set_option maxHeartbeats 1600000 in
set_option maxRecDepth 100000 in
theorem numbers_any (gb : Nat) (v0 : Value) (w : World) (h0 : w.cell? ⟨gb, 0, none⟩ = some v0) : Calls Try.prog 14 #[.pointer (some ⟨gb, 0, none⟩)] w fun e w' => ∃ A, e = .returned (.slice A 10 10) ∧ (KPtr gb).C w' A 10 numAt ∧ Below w.heap.size w w' := by
  go_enter Try.func14, Try.ntmps14
  go_wp2_with fail
  go_region_held3 (fun w' => w'.cell? ⟨gb, 0, none⟩ = some v0) (first | exact h0 | go_keep) (fail)
  all_goals
    go_wp2_with fail
    go_ret
    have hC := ptr_new gb 55 w numAt (by decide)
    refine ⟨_, rfl, ?_, ?_⟩
    · first | exact hC | exact Kd.C_drew hC | exact Kd.C_drewN hC _
    · exact below_drew1 (below_alloc (Below.refl _ _) _)
set_option maxHeartbeats 1600000 in
set_option maxRecDepth 100000 in
theorem texts_any (gb : Nat) (v0 : Value) (w : World) (h0 : w.cell? ⟨gb, 0, none⟩ = some v0) : Calls Try.prog 16 #[.pointer (some ⟨gb, 0, none⟩)] w fun e w' => ∃ A, e = .returned (.slice A 6 6) ∧ (KPtr gb).C w' A 6 textAt ∧ Below w.heap.size w w' := by
  go_enter Try.func16, Try.ntmps16
  go_wp2_with fail
  go_region_held3 (fun w' => w'.cell? ⟨gb, 0, none⟩ = some v0) (first | exact h0 | go_keep) (fail)
  all_goals
    go_wp2_with fail
    go_ret
    have hC := ptr_new gb 59 w textAt (by decide)
    refine ⟨_, rfl, ?_, ?_⟩
    · first | exact hC | exact Kd.C_drew hC | exact Kd.C_drewN hC _
    · exact below_drew1 (below_alloc (Below.refl _ _) _)
end Go.Proofs.Ytidjapjidihbpaa
namespace Go.Proofs.Ytidjapjidihbpaa
open Go.RowKit Go.Proofs.YtidjapjidihbpaaW.PrintWords

set_option maxHeartbeats 800000 in
set_option maxRecDepth 100000 in
theorem idx_int (A : Option Addr) (n cap : Nat) (xs : List Int) (p : Int → Bool) (w : World) (hC : (Kd.int .i64).C w A n xs)
    (hf : ∀ x ∈ xs, Calls Try.prog 38 #[Value.int .i64 x] w fun e w' => e = .returned (.bool (p x)) ∧ w = w') :
    Calls Try.prog 45 #[.slice A n cap, .func (.func 38) #[] #[]] w fun e w' => (∃ i : Int, e = .returned (.int .i64 i) ∧ decide (0 ≤ i) = xs.any p) ∧ w = w' := by
  have HN := Lib.hid (Kd.C_len hC)
  have HC := Lib.hid hC
  have HF := Lib.hid hf
  have hm := Kd.C_max hC
  clear hC hf
  go_enter Try.func45, Try.ntmps45
  go_wp2_with fail
  go_loopw [8] (fun i wr => ∃ j : Nat, i = .int .i64 j ∧ j ≤ n ∧ Hid ((xs.take j).any p = false) ∧ w = wr) (fun i _ => n - (intOf i).toNat)
  case atStart => exact ⟨0, rfl, Nat.zero_le _, Lib.hid (by simp), rfl⟩
  case round =>
    obtain ⟨j, rfl, hj, HNO, rfl⟩ := hrel
    by_cases hjn : j < n
    · obtain ⟨ad, x, rfl, hx, d0⟩ := C_nth_scalar HC.out j hjn
      have i0 : (0 : Int) ≤ (j : Int) := by omega
      have i1 : (j : Int) < (n : Int) := by omega
      have HX := Lib.hid hx
      have htk : xs.take (j + 1) = xs.take j ++ [x] := by rw [List.take_add_one, hx]; rfl
      have HTK := Lib.hid htk
      clear hx htk
      cases hp : p x
      case' true =>
        have HP := Lib.hid hp
        clear hp
        go_wp2_with (go_at_call 38; refine Calls.mono (HF.out x (List.mem_of_getElem? HX.out)) ?_; rintro e w1 ⟨rfl, rfl⟩; rw [HP.out])
        go_ret
        refine ⟨⟨_, rfl, ?_⟩, rfl⟩
        rw [decide_eq_true (by omega)]
        symm
        rw [List.any_eq_true]
        exact ⟨x, List.mem_of_getElem? HX.out, HP.out⟩
      case' false =>
        have HP := Lib.hid hp
        clear hp
        go_wp2_with (go_at_call 38; refine Calls.mono (HF.out x (List.mem_of_getElem? HX.out)) ?_; rintro e w1 ⟨rfl, rfl⟩; rw [HP.out])
        refine ⟨⟨j + 1, by simp, by omega, Lib.hid ?_, by trivial⟩, ?_⟩
        · rw [HTK.out, List.any_append, HNO.out]
          simp [HP.out]
        · simp [intOf]
          omega
    · have hjn' : j = n := by omega
      subst hjn'
      have htk : xs.take j = xs := List.take_of_length_le (by rw [HN.out]; exact Nat.le_refl _)
      rw [htk] at HNO
      go_wp2_with fail
      go_ret
      exact ⟨⟨_, rfl, by rw [HNO.out]; rfl⟩, rfl⟩
set_option maxHeartbeats 400000 in
theorem has_int (A : Option Addr) (n cap : Nat) (xs : List Int) (p : Int → Bool) (w : World) (hC : (Kd.int .i64).C w A n xs)
    (hf : ∀ x ∈ xs, Calls Try.prog 38 #[Value.int .i64 x] w fun e w' => e = .returned (.bool (p x)) ∧ w = w') :
    Calls Try.prog 40 #[.slice A n cap, .func (.func 38) #[] #[]] w fun e w' => e = .returned (.bool (xs.any p)) ∧ w = w' := by
  have HI := Lib.hid (idx_int A n cap xs p w hC hf)
  clear hC hf
  go_enter Try.func40, Try.ntmps40
  go_wp2_with fail
  refine Calls.mono HI.out ?_
  rintro e w1 ⟨⟨i, rfl, hi⟩, rfl⟩
  have HII := Lib.hid hi
  clear hi
  go_wp2_with fail
  go_ret
  exact ⟨by rw [← HII.out]; rfl, rfl⟩
end Go.Proofs.Ytidjapjidihbpaa
namespace Go.Proofs.Ytidjapjidihbpaa
open Go.RowKit Go.Proofs.YtidjapjidihbpaaW.PrintWords

set_option maxHeartbeats 800000 in
set_option maxRecDepth 100000 in
theorem idx_str (A : Option Addr) (n cap : Nat) (xs : List ByteArray) (p : ByteArray → Bool) (w : World) (hC : (Kd.string).C w A n xs)
    (hf : ∀ x ∈ xs, Calls Try.prog 30 #[Value.string x] w fun e w' => e = .returned (.bool (p x)) ∧ w = w') :
    Calls Try.prog 44 #[.slice A n cap, .func (.func 30) #[] #[]] w fun e w' => (∃ i : Int, e = .returned (.int .i64 i) ∧ decide (0 ≤ i) = xs.any p) ∧ w = w' := by
  have HN := Lib.hid (Kd.C_len hC)
  have HC := Lib.hid hC
  have HF := Lib.hid hf
  have hm := Kd.C_max hC
  clear hC hf
  go_enter Try.func44, Try.ntmps44
  go_wp2_with fail
  go_loopw [8] (fun i wr => ∃ j : Nat, i = .int .i64 j ∧ j ≤ n ∧ Hid ((xs.take j).any p = false) ∧ w = wr) (fun i _ => n - (intOf i).toNat)
  case atStart => exact ⟨0, rfl, Nat.zero_le _, Lib.hid (by simp), rfl⟩
  case round =>
    obtain ⟨j, rfl, hj, HNO, rfl⟩ := hrel
    by_cases hjn : j < n
    · obtain ⟨ad, x, rfl, hx, d0⟩ := C_nth_scalar HC.out j hjn
      have i0 : (0 : Int) ≤ (j : Int) := by omega
      have i1 : (j : Int) < (n : Int) := by omega
      have HX := Lib.hid hx
      have htk : xs.take (j + 1) = xs.take j ++ [x] := by rw [List.take_add_one, hx]; rfl
      have HTK := Lib.hid htk
      clear hx htk
      cases hp : p x
      case' true =>
        have HP := Lib.hid hp
        clear hp
        go_wp2_with (go_at_call 30; refine Calls.mono (HF.out x (List.mem_of_getElem? HX.out)) ?_; rintro e w1 ⟨rfl, rfl⟩; rw [HP.out])
        go_ret
        refine ⟨⟨_, rfl, ?_⟩, rfl⟩
        rw [decide_eq_true (by omega)]
        symm
        rw [List.any_eq_true]
        exact ⟨x, List.mem_of_getElem? HX.out, HP.out⟩
      case' false =>
        have HP := Lib.hid hp
        clear hp
        go_wp2_with (go_at_call 30; refine Calls.mono (HF.out x (List.mem_of_getElem? HX.out)) ?_; rintro e w1 ⟨rfl, rfl⟩; rw [HP.out])
        refine ⟨⟨j + 1, by simp, by omega, Lib.hid ?_, by trivial⟩, ?_⟩
        · rw [HTK.out, List.any_append, HNO.out]
          simp [HP.out]
        · simp [intOf]
          omega
    · have hjn' : j = n := by omega
      subst hjn'
      have htk : xs.take j = xs := List.take_of_length_le (by rw [HN.out]; exact Nat.le_refl _)
      rw [htk] at HNO
      go_wp2_with fail
      go_ret
      exact ⟨⟨_, rfl, by rw [HNO.out]; rfl⟩, rfl⟩
set_option maxHeartbeats 400000 in
theorem has_str (A : Option Addr) (n cap : Nat) (xs : List ByteArray) (p : ByteArray → Bool) (w : World) (hC : (Kd.string).C w A n xs)
    (hf : ∀ x ∈ xs, Calls Try.prog 30 #[Value.string x] w fun e w' => e = .returned (.bool (p x)) ∧ w = w') :
    Calls Try.prog 33 #[.slice A n cap, .func (.func 30) #[] #[]] w fun e w' => e = .returned (.bool (xs.any p)) ∧ w = w' := by
  have HI := Lib.hid (idx_str A n cap xs p w hC hf)
  clear hC hf
  go_enter Try.func33, Try.ntmps33
  go_wp2_with fail
  refine Calls.mono HI.out ?_
  rintro e w1 ⟨⟨i, rfl, hi⟩, rfl⟩
  have HII := Lib.hid hi
  clear hi
  go_wp2_with fail
  go_ret
  exact ⟨by rw [← HII.out]; rfl, rfl⟩
end Go.Proofs.Ytidjapjidihbpaa
namespace Go.Proofs.Ytidjapjidihbpaa
open Go.RowKit Go.Proofs.YtidjapjidihbpaaW.PrintWords

set_option maxHeartbeats 800000 in
set_option maxRecDepth 100000 in
theorem idx_pint (gb : Nat) (A : Option Addr) (n cap : Nat) (xs : List Nat) (p : Nat → Bool) (w : World) (hC : (KPtr gb).C w A n xs)
    (hf : ∀ x ∈ xs, Calls Try.prog 26 #[.pointer (some ⟨gb, x, none⟩)] w fun e w' => e = .returned (.bool (p x)) ∧ w = w') :
    Calls Try.prog 42 #[.slice A n cap, .func (.func 26) #[] #[]] w fun e w' => (∃ i : Int, e = .returned (.int .i64 i) ∧ decide (0 ≤ i) = xs.any p) ∧ w = w' := by
  have HN := Lib.hid (Kd.C_len hC)
  have HC := Lib.hid hC
  have HF := Lib.hid hf
  have hm := Kd.C_max hC
  clear hC hf
  go_enter Try.func42, Try.ntmps42
  go_wp2_with fail
  go_loopw [8] (fun i wr => ∃ j : Nat, i = .int .i64 j ∧ j ≤ n ∧ Hid ((xs.take j).any p = false) ∧ w = wr) (fun i _ => n - (intOf i).toNat)
  case atStart => exact ⟨0, rfl, Nat.zero_le _, Lib.hid (by simp), rfl⟩
  case round =>
    obtain ⟨j, rfl, hj, HNO, rfl⟩ := hrel
    by_cases hjn : j < n
    · obtain ⟨ad, x, rfl, hx, d0⟩ := C_nth_scalar HC.out j hjn
      have i0 : (0 : Int) ≤ (j : Int) := by omega
      have i1 : (j : Int) < (n : Int) := by omega
      have HX := Lib.hid hx
      have htk : xs.take (j + 1) = xs.take j ++ [x] := by rw [List.take_add_one, hx]; rfl
      have HTK := Lib.hid htk
      clear hx htk
      cases hp : p x
      case' true =>
        have HP := Lib.hid hp
        clear hp
        go_wp2_with (go_at_call 26; refine Calls.mono (HF.out x (List.mem_of_getElem? HX.out)) ?_; rintro e w1 ⟨rfl, rfl⟩; rw [HP.out])
        go_ret
        refine ⟨⟨_, rfl, ?_⟩, rfl⟩
        rw [decide_eq_true (by omega)]
        symm
        rw [List.any_eq_true]
        exact ⟨x, List.mem_of_getElem? HX.out, HP.out⟩
      case' false =>
        have HP := Lib.hid hp
        clear hp
        go_wp2_with (go_at_call 26; refine Calls.mono (HF.out x (List.mem_of_getElem? HX.out)) ?_; rintro e w1 ⟨rfl, rfl⟩; rw [HP.out])
        refine ⟨⟨j + 1, by simp, by omega, Lib.hid ?_, by trivial⟩, ?_⟩
        · rw [HTK.out, List.any_append, HNO.out]
          simp [HP.out]
        · simp [intOf]
          omega
    · have hjn' : j = n := by omega
      subst hjn'
      have htk : xs.take j = xs := List.take_of_length_le (by rw [HN.out]; exact Nat.le_refl _)
      rw [htk] at HNO
      go_wp2_with fail
      go_ret
      exact ⟨⟨_, rfl, by rw [HNO.out]; rfl⟩, rfl⟩
set_option maxHeartbeats 400000 in
theorem has_pint (gb : Nat) (A : Option Addr) (n cap : Nat) (xs : List Nat) (p : Nat → Bool) (w : World) (hC : (KPtr gb).C w A n xs)
    (hf : ∀ x ∈ xs, Calls Try.prog 26 #[.pointer (some ⟨gb, x, none⟩)] w fun e w' => e = .returned (.bool (p x)) ∧ w = w') :
    Calls Try.prog 31 #[.slice A n cap, .func (.func 26) #[] #[]] w fun e w' => e = .returned (.bool (xs.any p)) ∧ w = w' := by
  have HI := Lib.hid (idx_pint gb A n cap xs p w hC hf)
  clear hC hf
  go_enter Try.func31, Try.ntmps31
  go_wp2_with fail
  refine Calls.mono HI.out ?_
  rintro e w1 ⟨⟨i, rfl, hi⟩, rfl⟩
  have HII := Lib.hid hi
  clear hi
  go_wp2_with fail
  go_ret
  exact ⟨by rw [← HII.out]; rfl, rfl⟩
end Go.Proofs.Ytidjapjidihbpaa
namespace Go.Proofs.Ytidjapjidihbpaa
open Go.RowKit Go.Proofs.YtidjapjidihbpaaW.PrintWords

set_option maxHeartbeats 800000 in
set_option maxRecDepth 100000 in
theorem idx_pstr (gb : Nat) (A : Option Addr) (n cap : Nat) (xs : List Nat) (p : Nat → Bool) (w : World) (hC : (KPtr gb).C w A n xs)
    (hf : ∀ x ∈ xs, Calls Try.prog 28 #[.pointer (some ⟨gb, x, none⟩)] w fun e w' => e = .returned (.bool (p x)) ∧ w = w') :
    Calls Try.prog 43 #[.slice A n cap, .func (.func 28) #[] #[]] w fun e w' => (∃ i : Int, e = .returned (.int .i64 i) ∧ decide (0 ≤ i) = xs.any p) ∧ w = w' := by
  have HN := Lib.hid (Kd.C_len hC)
  have HC := Lib.hid hC
  have HF := Lib.hid hf
  have hm := Kd.C_max hC
  clear hC hf
  go_enter Try.func43, Try.ntmps43
  go_wp2_with fail
  go_loopw [8] (fun i wr => ∃ j : Nat, i = .int .i64 j ∧ j ≤ n ∧ Hid ((xs.take j).any p = false) ∧ w = wr) (fun i _ => n - (intOf i).toNat)
  case atStart => exact ⟨0, rfl, Nat.zero_le _, Lib.hid (by simp), rfl⟩
  case round =>
    obtain ⟨j, rfl, hj, HNO, rfl⟩ := hrel
    by_cases hjn : j < n
    · obtain ⟨ad, x, rfl, hx, d0⟩ := C_nth_scalar HC.out j hjn
      have i0 : (0 : Int) ≤ (j : Int) := by omega
      have i1 : (j : Int) < (n : Int) := by omega
      have HX := Lib.hid hx
      have htk : xs.take (j + 1) = xs.take j ++ [x] := by rw [List.take_add_one, hx]; rfl
      have HTK := Lib.hid htk
      clear hx htk
      cases hp : p x
      case' true =>
        have HP := Lib.hid hp
        clear hp
        go_wp2_with (go_at_call 28; refine Calls.mono (HF.out x (List.mem_of_getElem? HX.out)) ?_; rintro e w1 ⟨rfl, rfl⟩; rw [HP.out])
        go_ret
        refine ⟨⟨_, rfl, ?_⟩, rfl⟩
        rw [decide_eq_true (by omega)]
        symm
        rw [List.any_eq_true]
        exact ⟨x, List.mem_of_getElem? HX.out, HP.out⟩
      case' false =>
        have HP := Lib.hid hp
        clear hp
        go_wp2_with (go_at_call 28; refine Calls.mono (HF.out x (List.mem_of_getElem? HX.out)) ?_; rintro e w1 ⟨rfl, rfl⟩; rw [HP.out])
        refine ⟨⟨j + 1, by simp, by omega, Lib.hid ?_, by trivial⟩, ?_⟩
        · rw [HTK.out, List.any_append, HNO.out]
          simp [HP.out]
        · simp [intOf]
          omega
    · have hjn' : j = n := by omega
      subst hjn'
      have htk : xs.take j = xs := List.take_of_length_le (by rw [HN.out]; exact Nat.le_refl _)
      rw [htk] at HNO
      go_wp2_with fail
      go_ret
      exact ⟨⟨_, rfl, by rw [HNO.out]; rfl⟩, rfl⟩
set_option maxHeartbeats 400000 in
theorem has_pstr (gb : Nat) (A : Option Addr) (n cap : Nat) (xs : List Nat) (p : Nat → Bool) (w : World) (hC : (KPtr gb).C w A n xs)
    (hf : ∀ x ∈ xs, Calls Try.prog 28 #[.pointer (some ⟨gb, x, none⟩)] w fun e w' => e = .returned (.bool (p x)) ∧ w = w') :
    Calls Try.prog 32 #[.slice A n cap, .func (.func 28) #[] #[]] w fun e w' => e = .returned (.bool (xs.any p)) ∧ w = w' := by
  have HI := Lib.hid (idx_pstr gb A n cap xs p w hC hf)
  clear hC hf
  go_enter Try.func32, Try.ntmps32
  go_wp2_with fail
  refine Calls.mono HI.out ?_
  rintro e w1 ⟨⟨i, rfl, hi⟩, rfl⟩
  have HII := Lib.hid hi
  clear hi
  go_wp2_with fail
  go_ret
  exact ⟨by rw [← HII.out]; rfl, rfl⟩
end Go.Proofs.Ytidjapjidihbpaa
namespace Go.Proofs.Ytidjapjidihbpaa
open Go.RowKit Go.Proofs.YtidjapjidihbpaaW.PrintWords
set_option linter.unusedSimpArgs false

/-- Attributes. -/
structure QA where
  vis : Int
  ret : Int
  del : Int
  win : Int
  max : Int
  dead : ByteArray
  fifo : Bool
/-- A command. -/
structure Cm where
  client : Int
  req : Int
  kind : Int
  queue : ByteArray
  a : QA
  body : ByteArray
  group : ByteArray
  key : ByteArray
  receipt : ByteArray
  bodies : List ByteArray
  n : Int
  m : Int
def QA.val (a : QA) : Value := .agg #[.int .i64 a.vis, .int .i64 a.ret, .int .i64 a.del, .int .i64 a.win, .int .i64 a.max, .string a.dead, .bool a.fifo]
/-- A command as it lies in a block. -/
def Cm.cells (c : Cm) (vb : Value) (n : Int) : Array Value := #[.int .i64 c.client, .int .i64 c.req, .int .i64 c.kind, .string c.queue, .int .i64 c.a.vis, .int .i64 c.a.ret, .int .i64 c.a.del, .int .i64 c.a.win, .int .i64 c.a.max, .string c.a.dead, .bool c.a.fifo, .string c.body, .string c.group, .string c.key, .string c.receipt, vb, .int .i64 n, .int .i64 c.m]
/-- A command as it is handed over (flat); vb: its bodies. -/
def Cm.val (c : Cm) (vb : Value) : Value := .agg (c.cells vb c.n)
/-- Its numbers, its texts, as they are written (n: one more than N). -/
def Cm.nums (c : Cm) (n : Int) : List Int := [c.client, c.req, c.kind, n, c.m, c.a.vis, c.a.ret, c.a.del, c.a.win, c.a.max]
def Cm.texts (c : Cm) : List ByteArray := [c.queue, c.a.dead, c.body, c.group, c.key, c.receipt]
def okNum (n : Int) : Bool := decide (0 ≤ n ∧ n ≤ 4611686018427387904)
def okText (s : ByteArray) : Bool := decide (s.size ≤ 256)
def cmRight (c : Cm) : Bool := decide (-1 ≤ c.n ∧ c.n < 4611686018427387904) && ((c.nums (c.n + 1)).all okNum && (c.texts.all okText && (decide (c.bodies.length ≤ 10) && c.bodies.all okText)))
theorem numAt_cells (c : Cm) (vb : Value) (n : Int) (k : Nat) (hk : k < 10) : ∃ off v, numAt[k]? = some off ∧ (c.cells vb n)[off]? = some (.int .i64 v) ∧ (c.nums n)[k]? = some v := by
  match k, hk with
  | 0, _ => exact ⟨_, _, rfl, rfl, rfl⟩
  | 1, _ => exact ⟨_, _, rfl, rfl, rfl⟩
  | 2, _ => exact ⟨_, _, rfl, rfl, rfl⟩
  | 3, _ => exact ⟨_, _, rfl, rfl, rfl⟩
  | 4, _ => exact ⟨_, _, rfl, rfl, rfl⟩
  | 5, _ => exact ⟨_, _, rfl, rfl, rfl⟩
  | 6, _ => exact ⟨_, _, rfl, rfl, rfl⟩
  | 7, _ => exact ⟨_, _, rfl, rfl, rfl⟩
  | 8, _ => exact ⟨_, _, rfl, rfl, rfl⟩
  | 9, _ => exact ⟨_, _, rfl, rfl, rfl⟩
theorem textAt_cells (c : Cm) (vb : Value) (n : Int) (k : Nat) (hk : k < 6) : ∃ off s, textAt[k]? = some off ∧ (c.cells vb n)[off]? = some (.string s) ∧ c.texts[k]? = some s := by
  match k, hk with
  | 0, _ => exact ⟨_, _, rfl, rfl, rfl⟩
  | 1, _ => exact ⟨_, _, rfl, rfl, rfl⟩
  | 2, _ => exact ⟨_, _, rfl, rfl, rfl⟩
  | 3, _ => exact ⟨_, _, rfl, rfl, rfl⟩
  | 4, _ => exact ⟨_, _, rfl, rfl, rfl⟩
  | 5, _ => exact ⟨_, _, rfl, rfl, rfl⟩
/-- What a predicate of pointers says of the numbers they point to. -/
def numBad (c : Cm) (n : Int) (off : Nat) : Bool := match (c.cells (.int .i64 0) n)[off]? with
  | some (.int .i64 v) => !okNum v
  | _ => false
def textBad (c : Cm) (off : Nat) : Bool := match (c.cells (.int .i64 0) 0)[off]? with
  | some (.string s) => !okText s
  | _ => false
theorem numBad_any (c : Cm) (n : Int) : numAt.any (numBad c n) = !(c.nums n).all okNum := by
  simp [numAt, Cm.nums, numBad, Cm.cells, Bool.not_and]
theorem textBad_any (c : Cm) : textAt.any (textBad c) = !c.texts.all okText := by
  simp [textAt, Cm.texts, textBad, Cm.cells, Bool.not_and]
theorem wrong_any (gb off : Nat) (v : Int) (w : World) (h : w.cell? ⟨gb, off, none⟩ = some (.int .i64 v)) : Calls Try.prog 26 #[.pointer (some ⟨gb, off, none⟩)] w fun e w' => e = .returned (.bool (!okNum v)) ∧ w = w' := by
  obtain ⟨b, hb⟩ : ∃ b, b = okNum v := ⟨_, rfl⟩
  rw [← hb]
  have HB := Lib.hid hb
  clear hb
  go_enter Try.func26, Try.ntmps26
  go_wp2_with fail
  refine Calls.mono (number_any v w) ?_
  rintro e w1 ⟨rfl, rfl⟩
  rw [show decide (0 ≤ v ∧ v ≤ 4611686018427387904) = b from HB.out.symm]
  go_wp2_with fail
  go_ret
  exact ⟨rfl, rfl⟩
theorem long_any (gb off : Nat) (s : ByteArray) (w : World) (h : w.cell? ⟨gb, off, none⟩ = some (.string s)) : Calls Try.prog 28 #[.pointer (some ⟨gb, off, none⟩)] w fun e w' => e = .returned (.bool (!okText s)) ∧ w = w' := by
  obtain ⟨b, hb⟩ : ∃ b, b = okText s := ⟨_, rfl⟩
  rw [← hb]
  have HB := Lib.hid hb
  clear hb
  go_enter Try.func28, Try.ntmps28
  go_wp2_with fail
  refine Calls.mono (text_any s w) ?_
  rintro e w1 ⟨rfl, rfl⟩
  rw [show decide (s.size ≤ 256) = b from HB.out.symm]
  go_wp2_with fail
  go_ret
  exact ⟨rfl, rfl⟩
theorem other_any (s : ByteArray) (w : World) : Calls Try.prog 30 #[.string s] w fun e w' => e = .returned (.bool (!okText s)) ∧ w = w' := by
  obtain ⟨b, hb⟩ : ∃ b, b = okText s := ⟨_, rfl⟩
  rw [← hb]
  have HB := Lib.hid hb
  clear hb
  go_enter Try.func30, Try.ntmps30
  go_wp2_with fail
  refine Calls.mono (text_any s w) ?_
  rintro e w1 ⟨rfl, rfl⟩
  rw [show decide (s.size ≤ 256) = b from HB.out.symm]
  go_wp2_with fail
  go_ret
  exact ⟨rfl, rfl⟩
theorem Cm.cells_size (c : Cm) (vb : Value) (n : Int) : (c.cells vb n).size = 18 := rfl
/-- The cells of a command's block: numbers, texts. -/
theorem box_num {w : World} {gb t : Nat} {c : Cm} {vb : Value} {n : Int} (h : w.heap[gb]? = some (.cells (c.cells vb n) t (0, 0))) {off : Nat} (hx : off ∈ numAt) : ∃ v, w.cell? ⟨gb, off, none⟩ = some (.int .i64 v) ∧ numBad c n off = !okNum v := by
  simp only [numAt, List.mem_cons, List.not_mem_nil, or_false] at hx
  rcases hx with rfl | rfl | rfl | rfl | rfl | rfl | rfl | rfl | rfl | rfl <;> exact ⟨_, blk_cell h _, rfl⟩
theorem box_text {w : World} {gb t : Nat} {c : Cm} {vb : Value} {n : Int} (h : w.heap[gb]? = some (.cells (c.cells vb n) t (0, 0))) {off : Nat} (hx : off ∈ textAt) : ∃ s, w.cell? ⟨gb, off, none⟩ = some (.string s) ∧ textBad c off = !okText s := by
  simp only [textAt, List.mem_cons, List.not_mem_nil, or_false] at hx
  rcases hx with rfl | rfl | rfl | rfl | rfl | rfl <;> exact ⟨_, blk_cell h _, rfl⟩
theorem hasNum_any {w : World} {gb t : Nat} {c : Cm} {vb : Value} {n : Int} (h : w.heap[gb]? = some (.cells (c.cells vb n) t (0, 0))) {A : Option Addr} (hC : (KPtr gb).C w A 10 numAt) :
    Calls Try.prog 31 #[.slice A 10 10, .func (.func 26) #[] #[]] w fun e w' => e = .returned (.bool (!(c.nums n).all okNum)) ∧ w = w' := by
  rw [← numBad_any]
  refine has_pint gb A 10 10 numAt (numBad c n) w hC (fun x hx => ?_)
  obtain ⟨v, h1, h2⟩ := box_num h hx
  rw [h2]
  exact wrong_any gb x v w h1
theorem hasText_any {w : World} {gb t : Nat} {c : Cm} {vb : Value} {n : Int} (h : w.heap[gb]? = some (.cells (c.cells vb n) t (0, 0))) {A : Option Addr} (hC : (KPtr gb).C w A 6 textAt) :
    Calls Try.prog 32 #[.slice A 6 6, .func (.func 28) #[] #[]] w fun e w' => e = .returned (.bool (!c.texts.all okText)) ∧ w = w' := by
  rw [← textBad_any]
  refine has_pstr gb A 6 6 textAt (textBad c) w hC (fun x hx => ?_)
  obtain ⟨v, h1, h2⟩ := box_text h hx
  rw [h2]
  exact long_any gb x v w h1
theorem hasBody_any {w : World} {A : Option Addr} {n cap : Nat} {xs : List ByteArray} (hC : Kd.string.C w A n xs) :
    Calls Try.prog 33 #[.slice A n cap, .func (.func 30) #[] #[]] w fun e w' => e = .returned (.bool (!xs.all okText)) ∧ w = w' := by
  have : xs.any (fun s => !okText s) = !xs.all okText := by rw [List.not_all_eq_any_not]
  rw [← this]
  exact has_str A n cap xs (fun s => !okText s) w hC (fun x _ => other_any x w)
set_option maxHeartbeats 1600000 in
set_option maxRecDepth 100000 in
theorem right_any (c : Cm) (A : Option Addr) (nb cb : Nat) (w : World) (hC : Kd.string.C w A nb c.bodies) :
    Calls Try.prog 12 #[c.val (.slice A nb cb)] w fun e w' => e = .returned (.bool (cmRight c)) ∧ Below w.heap.size w w' := by
  have HC := Lib.hid hC
  have hnb := Kd.C_len hC
  have HNB := Lib.hid hnb
  clear hC hnb
  have HP0 := Lib.hid ((Hp.nil w).alloc (.cells (c.cells (.slice A nb cb) (c.n + 1)) 26))
  have hb0 := HP0.out.blk0
  have b0 := blk_cell hb0 0
  unfold Cm.cells at b0
  simp only [List.getElem?_toArray, List.getElem?_cons_zero] at b0
  clear hb0
  obtain ⟨B1, hB1⟩ : ∃ B1, B1 = (c.nums (c.n + 1)).all okNum := ⟨_, rfl⟩
  obtain ⟨B2, hB2⟩ : ∃ B2, B2 = c.texts.all okText := ⟨_, rfl⟩
  obtain ⟨B3, hB3⟩ : ∃ B3, B3 = c.bodies.all okText := ⟨_, rfl⟩
  obtain ⟨R, hR⟩ : ∃ R, R = cmRight c := ⟨_, rfl⟩
  have hR2 : R = (decide (-1 ≤ c.n ∧ c.n < 4611686018427387904) && (B1 && (B2 && (decide (nb ≤ 10) && B3)))) := by rw [hR, hB1, hB2, hB3, ← HNB.out]; rfl
  rw [← hR]
  have HR := Lib.hid hR2
  have HH1 := Lib.hid hB1
  have HH2 := Lib.hid hB2
  have HH3 := Lib.hid hB3
  clear hB1 hB2 hB3 hR hR2
  unfold Cm.val Cm.cells
  by_cases h1 : -1 ≤ c.n
  case neg =>
    have h1' : c.n < -1 := by omega
    have hRf : R = false := by rw [HR.out, decide_eq_false (fun h => h1 h.1)]; rfl
    subst hRf
    clear h1
    go_enter Try.func12, Try.ntmps12
    go_wp2_with fail
    go_ret
    exact ⟨rfl, below_alloc (Below.refl _ _) _⟩
  by_cases h2 : c.n < 4611686018427387904
  case neg =>
    have h1' : ¬ c.n < -1 := by omega
    have h2' : 4611686018427387904 ≤ c.n := by omega
    have hRf : R = false := by rw [HR.out, decide_eq_false (fun h => h2 h.2)]; rfl
    subst hRf
    clear h1 h2
    go_enter Try.func12, Try.ntmps12
    go_wp2_with fail
    go_ret
    exact ⟨rfl, below_alloc (Below.refl _ _) _⟩
  have h1' : ¬ c.n < -1 := by omega
  have h2' : ¬ 4611686018427387904 ≤ c.n := by omega
  rw [decide_eq_true ⟨h1, h2⟩, Bool.true_and] at HR
  go_enter Try.func12, Try.ntmps12
  go_wp2_with fail
  refine Calls.mono (numbers_any w.heap.size _ _ b0) ?_
  rintro e w1 ⟨A1, rfl, hC1, hB1⟩
  have HP1 := Lib.hid (HP0.out.below hB1)
  have HC1 := Lib.hid hC1
  have b0 := blk_cell HP1.out.blk0 0
  unfold Cm.cells at b0
  simp only [List.getElem?_toArray, List.getElem?_cons_zero] at b0
  have b15 := blk_cell HP1.out.blk0 15
  unfold Cm.cells at b15
  simp only [List.getElem?_toArray, List.getElem?_cons_zero, List.getElem?_cons_succ] at b15
  clear hC1 hB1
  go_wp2_with fail
  refine Calls.mono (hasNum_any HP1.out.blk0 HC1.out) ?_
  rintro e w2 ⟨rfl, rfl⟩
  rw [← HH1.out]
  cases B1
  case' false =>
    have hRf : R = false := by rw [HR.out]; rfl
    subst hRf
    go_wp2_with fail
    go_ret
    exact ⟨rfl, HP1.out.belowW⟩
  case' true =>
    go_wp2_with fail
    refine Calls.mono (texts_any w.heap.size _ _ b0) ?_
    rintro e w3 ⟨A3, rfl, hC3, hB3⟩
    have HP3 := Lib.hid (HP1.out.below hB3)
    have HC3 := Lib.hid hC3
    have b15 := blk_cell HP3.out.blk0 15
    unfold Cm.cells at b15
    simp only [List.getElem?_toArray, List.getElem?_cons_zero, List.getElem?_cons_succ] at b15
    clear hC3 hB3
    go_wp2_with fail
    refine Calls.mono (hasText_any HP3.out.blk0 HC3.out) ?_
    rintro e w4 ⟨rfl, rfl⟩
    rw [← HH2.out]
    cases B2
    case' false =>
      have hRf : R = false := by rw [HR.out]; rfl
      subst hRf
      go_wp2_with fail
      go_ret
      exact ⟨rfl, HP3.out.belowW⟩
    case' true =>
      by_cases hn10 : nb ≤ 10
      · have hn10' : (nb : Int) ≤ 10 := by omega
        rw [decide_eq_true hn10] at HR
        go_wp2_with fail
        refine Calls.mono (hasBody_any (Kd.C_below HC.out HP3.out.belowW)) ?_
        rintro e w5 ⟨rfl, rfl⟩
        rw [← HH3.out]
        have hRf : R = B3 := by rw [HR.out]; rfl
        subst hRf
        go_wp2_with fail
        go_ret
        exact ⟨by simp, HP3.out.belowW⟩
      · have hn10' : ¬ (nb : Int) ≤ 10 := by omega
        rw [decide_eq_false hn10] at HR
        have hRf : R = false := by rw [HR.out]; rfl
        subst hRf
        go_wp2_with fail
        go_ret
        exact ⟨rfl, HP3.out.belowW⟩
end Go.Proofs.Ytidjapjidihbpaa
namespace Go.Proofs.Ytidjapjidihbpaa
open Go.RowKit Go.Proofs.YtidjapjidihbpaaW.PrintWords
set_option linter.unusedSimpArgs false

/-- A command's bytes. -/
def encFifo (a : QA) : Int := if a.fifo then 1 else 0
def encHead (c : Cm) : List Int := ((c.nums (c.n + 1)).map encNum).flatten ++ encNum (encFifo c.a)
def encMid (c : Cm) : List Int := encHead c ++ (c.texts.map encText).flatten ++ encNum c.bodies.length
def encCmd (c : Cm) : List Int := encMid c ++ (c.bodies.map encText).flatten
theorem flat_le {α : Type} {f : α → List Int} {b : Nat} : ∀ {xs : List α}, (∀ x ∈ xs, (f x).length ≤ b) → ∀ j, ((xs.take j).map f).flatten.length ≤ b * xs.length
  | [], _, j => by simp
  | x :: xs, h, 0 => by simp
  | x :: xs, h, j + 1 => by
    have ih := flat_le (xs := xs) (fun y hy => h y (List.mem_cons_of_mem _ hy)) j
    have h1 := h x (List.mem_cons_self ..)
    rw [List.take_succ_cons, List.map_cons, List.flatten_cons, List.length_append, List.length_cons, Nat.mul_succ]
    omega
theorem flat_next {α : Type} {f : α → List Int} {xs : List α} {j : Nat} {x : α} (h : xs[j]? = some x) : ((xs.take (j + 1)).map f).flatten = ((xs.take j).map f).flatten ++ f x := by
  rw [List.take_add_one, h]
  simp
theorem encText_len {s : ByteArray} (h : s.size ≤ 256) : (encText s).length ≤ 265 := by
  unfold encText
  have := encNum_len (v := (s.size : Int)) (by omega)
  rw [List.length_append, bytesOf_length]
  omega
/-- Why something may not be written, or read. -/
def fault (at_ code : Int) : Obj := .cells #[.int .i64 at_, .iface 51 (.int .i64 code)] 80 (0, 0)
theorem refused_any (code at_ : Int) (w : World) : Calls Try.prog 13 #[.int .i64 code, .int .i64 at_] w fun e w' => ∃ fb, e = .returned (.iface 78 (.pointer (some ⟨fb, 0, none⟩))) ∧ w.heap.size ≤ fb ∧ w'.heap[fb]? = some (fault at_ code) ∧ Below w.heap.size w w' := by
  go_enter Try.func13, Try.ntmps13
  go_wp2_with fail
  go_ret
  exact ⟨_, rfl, Nat.le_refl _, heap_alloc_new w _, below_alloc (Below.refl _ _) _⟩
theorem right_parts {c : Cm} (h : cmRight c = true) : (-1 ≤ c.n ∧ c.n < 4611686018427387904) ∧ (∀ v ∈ c.nums (c.n + 1), 0 ≤ v ∧ v ≤ 4611686018427387904) ∧ (∀ s ∈ c.texts, s.size ≤ 256) ∧ c.bodies.length ≤ 10 ∧ ∀ s ∈ c.bodies, s.size ≤ 256 := by
  unfold cmRight at h
  simp only [Bool.and_eq_true, decide_eq_true_iff, List.all_eq_true, okNum, okText] at h
  exact ⟨h.1, h.2.1, h.2.2.1, h.2.2.2.1, h.2.2.2.2⟩
/-- A row of bytes that may be read, and is in its room. -/
def Rd (w : World) (A : Option Addr) (n c : Nat) (xs : List Int) : Prop := (Kd.int .u8).C w A n xs ∧ n ≤ c
theorem Rd.of {e : Nat} {w : World} {b : Nat} {ok : Nat → Prop} {A : Option Addr} {n c : Nat} {xs : List Int} (h : (Kd.int .u8).R e w b ok (.slice A n c) xs) : Rd w A n c xs := by
  obtain ⟨h1, h2, h3⟩ := Kd.R_reads' h
  exact ⟨by rw [h1]; exact h3, h2⟩
theorem Rd.below {w w' : World} {A : Option Addr} {n c : Nat} {xs : List Int} (h : Rd w A n c xs) (hB : Below w.heap.size w w') : Rd w' A n c xs := ⟨Kd.C_below h.1 hB, h.2⟩
theorem Rd.len {w : World} {A : Option Addr} {n c : Nat} {xs : List Int} (h : Rd w A n c xs) : n = xs.length := (Kd.C_len h.1).symm
theorem Rd.nil (w : World) (c : Nat) : Rd w none 0 c [] := ⟨Kd.C_nil _ _, Nat.zero_le _⟩
theorem rdNum {w : World} {A : Option Addr} {n cap : Nat} {xs : List Int} (h : Rd w A n cap xs) (hl : xs.length ≤ 1000000) {v : Int} (hv : v ≤ 9223372036854775807) :
    Calls Try.prog 15 #[.slice A n cap, .int .i64 v] w fun e w' => ∃ A' n' c', e = .returned (.slice A' n' c') ∧ Rd w' A' n' c' (xs ++ encNum v) ∧ Below w.heap.size w w' := by
  refine Calls.mono (coNum_any A n cap xs v w h.1 h.2 (by rw [h.len]; exact hl) hv) ?_
  rintro e w' ⟨A', n', c', rfl, hR, hB⟩
  exact ⟨A', n', c', rfl, Rd.of hR, hB⟩
theorem rdText {w : World} {A : Option Addr} {n cap : Nat} {xs : List Int} (h : Rd w A n cap xs) (hl : xs.length ≤ 1000000) {s : ByteArray} (hv : s.size ≤ 1000000) :
    Calls Try.prog 17 #[.slice A n cap, .string s] w fun e w' => ∃ A' n' c', e = .returned (.slice A' n' c') ∧ Rd w' A' n' c' (xs ++ encText s) ∧ Below w.heap.size w w' := by
  refine Calls.mono (coText_any A n cap xs s w h.1 h.2 (by rw [h.len]; exact hl) hv) ?_
  rintro e w' ⟨A', n', c', rfl, hR, hB⟩
  exact ⟨A', n', c', rfl, Rd.of hR, hB⟩
theorem Hp.setBlk {w0 w : World} {g t : Nat} {cs : Array Value} {Ps : List Asn} (h : Hp w0 w (ABlk g (.cells cs t (0, 0)) :: Ps)) (i : Nat) (u : Value) : Hp w0 (w.setCell ⟨g, i, none⟩ u) (ABlk g (.cells (cs.setIfInBounds i u) t (0, 0)) :: Ps) := by
  obtain ⟨S1, h1, h2⟩ := h.use1
  exact h2 _ (ABlk g (.cells (cs.setIfInBounds i u) t (0, 0))) ((Keep.refl S1 w).setCell (p := ⟨g, i, none⟩) (.inl h1.1) u) ⟨.inl h1.1, blk_set h1.2 i u⟩
theorem cells_next (c : Cm) (vb : Value) (n : Int) : (c.cells vb c.n).setIfInBounds 16 (.int .i64 n) = c.cells vb n := rfl
set_option maxHeartbeats 3200000 in
set_option maxRecDepth 100000 in
theorem write_any (c : Cm) (A : Option Addr) (nb cb : Nat) (w : World) (hC : Kd.string.C w A nb c.bodies) :
    Calls Try.prog 6 #[c.val (.slice A nb cb)] w fun e w' =>
      (cmRight c = true → ∃ A' n' c', e = .returned (.tuple #[.slice A' n' c', .nilIface]) ∧ Rd w' A' n' c' (encCmd c)) ∧
      (cmRight c = false → ∃ fb, e = .returned (.tuple #[.slice none 0 0, .iface 78 (.pointer (some ⟨fb, 0, none⟩))]) ∧ w.heap.size ≤ fb ∧ w'.heap[fb]? = some (fault 0 1)) ∧ Below w.heap.size w w' := by
  have HC := Lib.hid hC
  have HNB := Lib.hid (Kd.C_len hC)
  have hnm := Kd.C_max hC
  clear hC
  have HP00 := Lib.hid ((Hp.nil w).alloc (.cells (c.cells (.slice A nb cb) c.n) 26))
  have hRC := right_any c A nb cb _ (Kd.C_below HC.out HP00.out.belowW)
  have hNX := cells_next c (.slice A nb cb) (c.n + 1)
  unfold Cm.val at *
  obtain ⟨cs, hcs⟩ : ∃ cs, cs = c.cells (.slice A nb cb) c.n := ⟨_, rfl⟩
  rw [← hcs] at HP00 hRC hNX ⊢
  have hsz : cs.size = 18 := by rw [hcs]; rfl
  have HRC := Lib.hid hRC
  have HNX := Lib.hid hNX
  have HCS := Lib.hid hcs
  have HSZ := Lib.hid (show (Try.prog.info? 26).map (·.size) = some cs.size by rw [hsz]; kernel_rfl)
  clear hRC hNX hcs hsz
  cases hR : cmRight c
  case' false =>
    have HR := Lib.hid hR
    clear hR
    go_enter Try.func6, Try.ntmps6
    go_wp2_with ((with_reducible refine gate_dst (N := 12) rfl ?_); refine wpList_load_row rfl 26 (.tmp 1) rfl w.heap.size rfl 26 cs (0, 0) _ HP00.out.blk0 Try.underlying26 rfl HSZ.out ?_)
    refine Calls.mono HRC.out ?_
    rintro e w1 ⟨rfl, hB1⟩
    rw [HR.out]
    have HB1 := Lib.hid (HP00.out.below hB1).belowW
    clear hB1
    go_wp2_with fail
    refine Calls.mono (refused_any 1 0 w1) ?_
    rintro e w2 ⟨fb, rfl, hfb, hf, hB2⟩
    have HF := Lib.hid hf
    have HB2 := Lib.hid (HB1.out.trans (hB2.mono HB1.out.size))
    have hz := HB1.out.size
    clear hf hB2
    go_wp2_with fail
    go_ret2
    exact ⟨fun h => absurd h (by decide), fun _ => ⟨fb, rfl, by omega, HF.out⟩, HB2.out⟩
  case' true =>
    have HR := Lib.hid hR
    have HPT := Lib.hid (right_parts hR)
    clear hR
    go_enter Try.func6, Try.ntmps6
    go_wp2_with ((with_reducible refine gate_dst (N := 12) rfl ?_); refine wpList_load_row rfl 26 (.tmp 1) rfl w.heap.size rfl 26 cs (0, 0) _ HP00.out.blk0 Try.underlying26 rfl HSZ.out ?_)
    refine Calls.mono HRC.out ?_
    rintro e w1 ⟨rfl, hB1⟩
    rw [HR.out]
    have hP1 := HP00.out.below hB1
    have b16 : w1.cell? ⟨w.heap.size, 16, none⟩ = some (.int .i64 c.n) := by
      rw [blk_cell hP1.blk0, HCS.out]
      rfl
    have hfz := blk_frozen hP1.blk0 16
    have hP2 := hP1.setBlk 16 (.int .i64 (c.n + 1))
    rw [HNX.out] at hP2
    have HP2 := Lib.hid hP2
    have hcn := HPT.out.1
    have HN10 := Lib.hid HPT.out.2.1
    have HT10 := Lib.hid HPT.out.2.2.1
    have HB10 := Lib.hid HPT.out.2.2.2
    have d0 : (w1.setCell ⟨w.heap.size, 16, none⟩ (.int .i64 (c.n + 1))).cell? ⟨w.heap.size, 0, none⟩ = some (.int .i64 c.client) := by
      rw [blk_cell HP2.out.blk0]
      rfl
    have HD0 := Lib.hid d0
    clear hB1 hP1 hP2 d0
    go_wp2_with fail
    refine Calls.mono (numbers_any w.heap.size _ _ HD0.out) ?_
    rintro e w3 ⟨A3, rfl, hC3, hB3⟩
    have HP3 := Lib.hid (HP2.out.below hB3)
    have HC3 := Lib.hid hC3
    clear hC3 hB3 b16 hfz
    generalize w.heap.size = gb at *
    go_wp2_with fail
    go_loopw [4, 22] (fun o i wr => ∃ (j : Nat) (A2 : Option Addr) (n2 c2 : Nat), i = .int .i64 j ∧ j ≤ 10 ∧ o = .slice A2 n2 c2 ∧ Rd wr A2 n2 c2 (((c.nums (c.n + 1)).take j).map encNum).flatten ∧ Below w3.heap.size w3 wr) (fun _ i _ => 10 - (intOf i).toNat)
    case atStart => exact ⟨0, none, 0, 0, rfl, by omega, rfl, Rd.nil _ _, Below.refl _ _⟩
    case round =>
      obtain ⟨j, A2, n2, c2, rfl, hj, rfl, hRd, hB⟩ := hrel
      have HRD := Lib.hid hRd
      have HB := Lib.hid hB
      clear hRd hB
      by_cases hjn : j < 10
      · obtain ⟨off, v, h1, h2, h3⟩ := numAt_cells c (.slice A nb cb) (c.n + 1) j hjn
        obtain ⟨ad, x, rfl, hx, d0⟩ := C_nth_scalar (Kd.C_below HC3.out HB.out) j hjn
        obtain rfl : off = x := Option.some.inj (h1.symm.trans hx)
        have hcell : wr.cell? ⟨gb, off, none⟩ = some (.int .i64 v) := by rw [blk_cell (HP3.out.below HB.out).blk0, h2]
        have hv := HN10.out v (List.mem_of_getElem? h3)
        have HNX3 := Lib.hid (flat_next (f := encNum) h3)
        have hfl := flat_le (f := encNum) (b := 9) (xs := c.nums (c.n + 1)) (fun y hy => encNum_len (by have := (HN10.out y hy).2; omega)) j
        have hfl2 : (((c.nums (c.n + 1)).take j).map encNum).flatten.length ≤ 1000 := Nat.le_trans hfl (by simp [Cm.nums])
        have i0 : (0 : Int) ≤ (j : Int) := by omega
        have i1 : (j : Int) < 10 := by omega
        have HFL := Lib.hid hfl2
        clear h1 h2 h3 hx hfl hfl2
        go_wp2_with fail
        refine Calls.mono (rdNum HRD.out (Nat.le_trans HFL.out (by decide)) (by omega)) ?_
        rintro e w4 ⟨A4, n4, c4, rfl, hR4, hB4⟩
        rw [← HNX3.out] at hR4
        have HR4 := Lib.hid hR4
        have HB4 := Lib.hid (HB.out.trans (hB4.mono HB.out.size))
        clear hR4 hB4
        go_wp2_with fail
        refine ⟨⟨j + 1, A4, n4, c4, by simp, by omega, rfl, HR4.out, HB4.out⟩, ?_⟩
        simp [intOf]
        omega
      · have hjn' : j = 10 := by omega
        subst hjn'
        have HPr := Lib.hid (HP3.out.below HB.out)
        have hfifo : wr.cell? ⟨gb, 10, none⟩ = some (.bool c.a.fifo) := by
          rw [blk_cell HPr.out.blk0]
          rfl
        have hfl2 : (((c.nums (c.n + 1)).take 10).map encNum).flatten.length ≤ 1000 := Nat.le_trans (flat_le (f := encNum) (b := 9) (xs := c.nums (c.n + 1)) (fun y hy => encNum_len (by have := (HN10.out y hy).2; omega)) 10) (by simp [Cm.nums])
        have hef : encHead c = (((c.nums (c.n + 1)).take 10).map encNum).flatten ++ encNum (encFifo c.a) := rfl
        generalize (((c.nums (c.n + 1)).take 10).map encNum).flatten = h10 at *
        have HFL := Lib.hid hfl2
        have HEF := Lib.hid hef
        clear hfl2 hef
        have HHL : Hid ((encHead c).length ≤ 1009) := Lib.hid (by
          rw [HEF.out, List.length_append]
          have := HFL.out
          have := encNum_len (v := encFifo c.a) (by unfold encFifo; split <;> omega)
          omega)
        unfold encFifo at HEF
        cases hff : c.a.fifo
        all_goals
          rw [hff] at HEF hfifo
          have HFF := Lib.hid hff
          clear hff
          go_wp2_with fail
          refine Calls.mono (rdNum HRD.out (Nat.le_trans HFL.out (by decide)) (by decide)) ?_
          rintro e w4 ⟨A4, n4, c4, rfl, hR4, hB4⟩
          have hR4 : Rd w4 A4 n4 c4 (encHead c) := by rw [HEF.out]; exact hR4
          have HR4 := Lib.hid hR4
          have HP4 := Lib.hid (HPr.out.below hB4)
          have d0 : w4.cell? ⟨gb, 0, none⟩ = some (.int .i64 c.client) := by
            rw [blk_cell HP4.out.blk0]
            rfl
          clear hR4 hB4
          go_wp2_with fail
          refine Calls.mono (texts_any gb _ _ d0) ?_
          rintro e w5 ⟨A5, rfl, hC5, hB5⟩
          have HC5 := Lib.hid hC5
          have HP5 := Lib.hid (HP4.out.below hB5)
          have HR5 := Lib.hid (HR4.out.below hB5)
          clear hC5 hB5 d0
          go_wp2_with fail
          go_loopw [4, 40] (fun o i wq => ∃ (q : Nat) (A6 : Option Addr) (n6 c6 : Nat), i = .int .i64 q ∧ q ≤ 6 ∧ o = .slice A6 n6 c6 ∧ Rd wq A6 n6 c6 (encHead c ++ ((c.texts.take q).map encText).flatten) ∧ Below w5.heap.size w5 wq) (fun _ i _ => 6 - (intOf i).toNat)
          case atStart => exact ⟨0, A4, n4, c4, rfl, by omega, rfl, by simpa using HR5.out, Below.refl _ _⟩
          case round =>
            obtain ⟨q, A6, n6, c6, rfl, hq, rfl, hRd, hB⟩ := hrel
            have HRQ := Lib.hid hRd
            have HBQ := Lib.hid hB
            clear hRd hB
            have hfl := flat_le (f := encText) (b := 265) (xs := c.texts) (fun y hy => encText_len (HT10.out y hy)) q
            have hfl2 : (encHead c ++ ((c.texts.take q).map encText).flatten).length ≤ 3000 := by
              rw [List.length_append]
              have := HHL.out
              have h6 : c.texts.length = 6 := rfl
              rw [h6] at hfl
              omega
            have HFQ := Lib.hid hfl2
            clear hfl hfl2
            by_cases hqn : q < 6
            · obtain ⟨off, s, h1, h2, h3⟩ := textAt_cells c (.slice A nb cb) (c.n + 1) q hqn
              obtain ⟨ad, x, rfl, hx, d0⟩ := C_nth_scalar (Kd.C_below HC5.out HBQ.out) q hqn
              obtain rfl : off = x := Option.some.inj (h1.symm.trans hx)
              have hcell : wr.cell? ⟨gb, off, none⟩ = some (.string s) := by rw [blk_cell (HP5.out.below HBQ.out).blk0, h2]
              have hs := HT10.out s (List.mem_of_getElem? h3)
              have HNX3 := Lib.hid (flat_next (f := encText) h3)
              have i0 : (0 : Int) ≤ (q : Int) := by omega
              have i1 : (q : Int) < 6 := by omega
              clear h1 h2 h3 hx
              go_wp2_with fail
              refine Calls.mono (rdText HRQ.out (Nat.le_trans HFQ.out (by decide)) (by omega)) ?_
              rintro e w7 ⟨A7, n7, c7, rfl, hR7, hB7⟩
              rw [List.append_assoc, ← HNX3.out] at hR7
              have HR7 := Lib.hid hR7
              have HB7 := Lib.hid (HBQ.out.trans (hB7.mono HBQ.out.size))
              clear hR7 hB7
              go_wp2_with fail
              refine ⟨⟨q + 1, A7, n7, c7, by simp, by omega, rfl, HR7.out, HB7.out⟩, ?_⟩
              simp [intOf]
              omega
            · have hqn' : q = 6 := by omega
              subst hqn'
              have HP6 := Lib.hid (HP5.out.below HBQ.out)
              have d15 : wr.cell? ⟨gb, 15, none⟩ = some (.slice A nb cb) := by
                rw [blk_cell HP6.out.blk0]
                rfl
              have hem : encMid c = encHead c ++ ((c.texts.take 6).map encText).flatten ++ encNum nb := by rw [← HNB.out]; rfl
              generalize encHead c ++ ((c.texts.take 6).map encText).flatten = h6 at *
              have HEM := Lib.hid hem
              clear hem
              have HML : Hid ((encMid c).length ≤ 3009) := Lib.hid (by
                rw [HEM.out, List.length_append]
                have := HFQ.out
                have := encNum_len (v := (nb : Int)) (by omega)
                omega)
              go_wp2_with fail
              refine Calls.mono (rdNum HRQ.out (Nat.le_trans HFQ.out (by decide)) (by omega)) ?_
              rintro e w8 ⟨A8, n8, c8, rfl, hR8, hB8⟩
              rw [← HEM.out] at hR8
              have HR8 := Lib.hid hR8
              have HP8 := Lib.hid (HP6.out.below hB8)
              have d15 : w8.cell? ⟨gb, 15, none⟩ = some (.slice A nb cb) := by
                rw [blk_cell HP8.out.blk0]
                rfl
              clear hR8 hB8
              go_wp2_with fail
              go_loopw [4, 58] (fun o i wz => ∃ (z : Nat) (A9 : Option Addr) (n9 c9 : Nat), i = .int .i64 z ∧ z ≤ nb ∧ o = .slice A9 n9 c9 ∧ Rd wz A9 n9 c9 (encMid c ++ ((c.bodies.take z).map encText).flatten) ∧ Below w8.heap.size w8 wz) (fun _ i _ => nb - (intOf i).toNat)
              case atStart => exact ⟨0, A8, n8, c8, rfl, Nat.zero_le _, rfl, by simpa using HR8.out, Below.refl _ _⟩
              case round =>
                obtain ⟨z, A9, n9, c9, rfl, hz, rfl, hRd, hB⟩ := hrel
                have HRZ := Lib.hid hRd
                have HBZ := Lib.hid hB
                clear hRd hB
                have hfl := flat_le (f := encText) (b := 265) (xs := c.bodies) (fun y hy => encText_len (HB10.out.2 y hy)) z
                have hfl2 : (encMid c ++ ((c.bodies.take z).map encText).flatten).length ≤ 10000 := by
                  rw [List.length_append]
                  have := HML.out
                  have h6 := HB10.out.1
                  have : 265 * c.bodies.length ≤ 265 * 10 := Nat.mul_le_mul_left _ h6
                  omega
                have HFZ := Lib.hid hfl2
                have HBW := Lib.hid ((HP8.out.below HBZ.out).belowW)
                clear hfl hfl2
                by_cases hzn : z < nb
                · obtain ⟨ad, s, rfl, hx, d0⟩ := C_nth_scalar (Kd.C_below HC.out HBW.out) z hzn
                  have hs := HB10.out.2 s (List.mem_of_getElem? hx)
                  have HNX3 := Lib.hid (flat_next (f := encText) hx)
                  have i0 : (0 : Int) ≤ (z : Int) := by omega
                  have i1 : (z : Int) < (nb : Int) := by omega
                  clear hx
                  go_wp2_with fail
                  refine Calls.mono (rdText HRZ.out (Nat.le_trans HFZ.out (by decide)) (by omega)) ?_
                  rintro e w7 ⟨A7, n7, c7, rfl, hR7, hB7⟩
                  rw [List.append_assoc, ← HNX3.out] at hR7
                  have HR7 := Lib.hid hR7
                  have HB7 := Lib.hid (HBZ.out.trans (hB7.mono HBZ.out.size))
                  clear hR7 hB7
                  go_wp2_with fail
                  refine ⟨⟨z + 1, A7, n7, c7, by simp, by omega, rfl, HR7.out, HB7.out⟩, ?_⟩
                  simp [intOf]
                  omega
                · have hzn' : z = nb := by omega
                  subst hzn'
                  have htk : c.bodies.take z = c.bodies := List.take_of_length_le (by rw [HNB.out]; exact Nat.le_refl _)
                  rw [htk] at HRZ
                  clear htk
                  go_wp2_with fail
                  go_ret2
                  exact ⟨fun _ => ⟨A9, n9, c9, rfl, HRZ.out⟩, fun h => absurd h (by decide), HBW.out⟩
end Go.Proofs.Ytidjapjidihbpaa
namespace Go.Proofs.Ytidjapjidihbpaa
open Go.RowKit Go.Proofs.YtidjapjidihbpaaW.PrintWords

theorem encNat_inj : ∀ (n m : Nat) (a b : List Int), encNat n ++ a = encNat m ++ b → n = m ∧ a = b := by
  intro n
  induction n using Nat.strongRecOn with
  | _ n ih =>
    intro m a b h
    by_cases hn : n < 128
    · by_cases hm : m < 128
      · rw [encNat_small hn, encNat_small hm, List.singleton_append, List.singleton_append] at h
        injection h with h1 h2
        exact ⟨by omega, h2⟩
      · rw [encNat_small hn, encNat_big hm, List.singleton_append, List.cons_append] at h
        injection h with h1 h2
        omega
    · by_cases hm : m < 128
      · rw [encNat_big hn, encNat_small hm, List.singleton_append, List.cons_append] at h
        injection h with h1 h2
        omega
      · rw [encNat_big hn, encNat_big hm, List.cons_append, List.cons_append] at h
        injection h with h1 h2
        obtain ⟨h3, h4⟩ := ih (n / 128) (by omega) (m / 128) a b h2
        exact ⟨by omega, h4⟩
theorem encNum_inj {u v : Int} (hu : 0 ≤ u) (hv : 0 ≤ v) {a b : List Int} (h : encNum u ++ a = encNum v ++ b) : u = v ∧ a = b := by
  obtain ⟨h1, h2⟩ := encNat_inj _ _ _ _ h
  exact ⟨by omega, h2⟩
theorem bytesOf_inj {s t : ByteArray} (h : bytesOf s = bytesOf t) : s = t := by
  apply Go.WideShapes.bytes_inj
  unfold bytesOf at h
  have hinj : ∀ a b : UInt8, ((a.toNat : Nat) : Int) = ((b.toNat : Nat) : Int) → a = b := fun a b e => UInt8.toNat_inj.1 (by omega)
  exact (List.map_inj_right (fun a b e => hinj a b e)).1 h
theorem encText_inj {s t : ByteArray} {a b : List Int} (h : encText s ++ a = encText t ++ b) : s = t ∧ a = b := by
  unfold encText at h
  rw [List.append_assoc, List.append_assoc] at h
  obtain ⟨h1, h2⟩ := encNum_inj (by omega) (by omega) h
  have hl : (bytesOf s).length = (bytesOf t).length := by rw [bytesOf_length, bytesOf_length]; omega
  obtain ⟨h3, h4⟩ := List.append_inj h2 hl
  exact ⟨bytesOf_inj h3, h4⟩
theorem nums_inj : ∀ {xs ys : List Int} {a b : List Int}, xs.length = ys.length → (∀ x ∈ xs, 0 ≤ x) → (∀ y ∈ ys, 0 ≤ y) → (xs.map encNum).flatten ++ a = (ys.map encNum).flatten ++ b → xs = ys ∧ a = b
  | [], [], _, _, _, _, _, h => ⟨rfl, by simpa using h⟩
  | [], _ :: _, _, _, hl, _, _, _ => by simp at hl
  | _ :: _, [], _, _, hl, _, _, _ => by simp at hl
  | x :: xs, y :: ys, a, b, hl, hx, hy, h => by
    rw [List.map_cons, List.map_cons, List.flatten_cons, List.flatten_cons, List.append_assoc, List.append_assoc] at h
    obtain ⟨h1, h2⟩ := encNum_inj (hx x (List.mem_cons_self ..)) (hy y (List.mem_cons_self ..)) h
    obtain ⟨h3, h4⟩ := nums_inj (by simpa using hl) (fun z hz => hx z (List.mem_cons_of_mem _ hz)) (fun z hz => hy z (List.mem_cons_of_mem _ hz)) h2
    exact ⟨by rw [h1, h3], h4⟩
theorem texts_inj : ∀ {xs ys : List ByteArray} {a b : List Int}, xs.length = ys.length → (xs.map encText).flatten ++ a = (ys.map encText).flatten ++ b → xs = ys ∧ a = b
  | [], [], _, _, _, h => ⟨rfl, by simpa using h⟩
  | [], _ :: _, _, _, hl, _ => by simp at hl
  | _ :: _, [], _, _, hl, _ => by simp at hl
  | x :: xs, y :: ys, a, b, hl, h => by
    rw [List.map_cons, List.map_cons, List.flatten_cons, List.flatten_cons, List.append_assoc, List.append_assoc] at h
    obtain ⟨h1, h2⟩ := encText_inj h
    obtain ⟨h3, h4⟩ := texts_inj (by simpa using hl) h2
    exact ⟨by rw [h1, h3], h4⟩
/-- Commands that may be written have the same bytes just if they are the same. -/
theorem encCmd_inj {c d : Cm} (hc : cmRight c = true) (hd : cmRight d = true) (h : encCmd c = encCmd d) : c = d := by
  obtain ⟨_, c2, _, c4, _⟩ := right_parts hc
  obtain ⟨_, d2, _, d4, _⟩ := right_parts hd
  unfold encCmd encMid encHead at h
  simp only [List.append_assoc] at h
  obtain ⟨h1, h2⟩ := nums_inj (by simp [Cm.nums]) (fun x hx => (c2 x hx).1) (fun x hx => (d2 x hx).1) h
  have hf : ∀ a : QA, 0 ≤ encFifo a := fun a => by unfold encFifo; split <;> omega
  obtain ⟨h3, h4⟩ := encNum_inj (hf _) (hf _) h2
  obtain ⟨h5, h6⟩ := texts_inj (by simp [Cm.texts]) h4
  obtain ⟨h7, h8⟩ := encNum_inj (by omega) (by omega) h6
  have h8' : (c.bodies.map encText).flatten ++ [] = (d.bodies.map encText).flatten ++ [] := by simpa using h8
  obtain ⟨h9, _⟩ := texts_inj (by omega) h8'
  have hff : c.a.fifo = d.a.fifo := by
    unfold encFifo at h3
    cases hcf : c.a.fifo <;> cases hdf : d.a.fifo <;> rw [hcf, hdf] at h3 <;> simp at h3 ⊢
  obtain ⟨client, req, kind, queue, ⟨vis, ret, del, win, max, dead, fifo⟩, body, group, key, receipt, bodies, n, m⟩ := c
  obtain ⟨client', req', kind', queue', ⟨vis', ret', del', win', max', dead', fifo'⟩, body', group', key', receipt', bodies', n', m'⟩ := d
  simp only [Cm.nums, Cm.texts, List.cons.injEq, and_true] at h1 h5
  dsimp only at h9 hff
  obtain ⟨e1, e2, e3, e4, e5, e6, e7, e8, e9, e10⟩ := h1
  obtain ⟨f1, f2, f3, f4, f5, f6⟩ := h5
  have e4 : n = n' := by omega
  subst e1 e2 e3 e4 e5 e6 e7 e8 e9 e10 f1 f2 f3 f4 f5 f6 h9 hff
  rfl
end Go.Proofs.Ytidjapjidihbpaa
namespace Go.Proofs.Ytidjapjidihbpaa
open Go.RowKit Go.Proofs.YtidjapjidihbpaaW.PrintWords
set_option linter.unusedSimpArgs false

def QA.cells (a : QA) : Array Value := #[.int .i64 a.vis, .int .i64 a.ret, .int .i64 a.del, .int .i64 a.win, .int .i64 a.max, .string a.dead, .bool a.fifo]
set_option maxHeartbeats 800000 in
set_option maxRecDepth 100000 in
theorem attr_any (a : QA) (w : World) : Calls Try.prog 18 #[.agg a.cells] w fun e w' => e = .returned (.agg a.cells) ∧ Below w.heap.size w w' := by
  unfold QA.cells
  go_enter Try.func18, Try.ntmps18
  go_wp2_with fail
  refine bodyPost_ret (results_cell_row rfl _ _ (w.heap.size + 1) 37 #[.int .i64 a.vis, .int .i64 a.ret, .int .i64 a.del, .int .i64 a.win, .int .i64 a.max, .string a.dead, .bool a.fifo] (0, 0) _ rfl ?_ Try.underlying37 rfl (by kernel_rfl)) rfl ?_
  · have h := heap_alloc_new (w.alloc (.cells #[.int .i64 a.vis, .int .i64 a.ret, .int .i64 a.del, .int .i64 a.win, .int .i64 a.max, .string a.dead, .bool a.fifo] 23)) (.cells #[.int .i64 a.vis, .int .i64 a.ret, .int .i64 a.del, .int .i64 a.win, .int .i64 a.max, .string a.dead, .bool a.fifo] 37)
    simpa using h
  · exact ⟨rfl, below_alloc (below_alloc (Below.refl _ _) _) _⟩
end Go.Proofs.Ytidjapjidihbpaa
