/- The document's row of a lane: At; and 'same' of ints. -/
import Derived.Test.YtdcifghhamondaaLnMem
import Derived.Deep.QuietTactic
import Derived.BigQuiet
namespace Go.Proofs.Ytdcifghhamondaa
open Go.RowKit Go.Proofs.YtdcifghhamondaaW.PrintWords

/-- A thing of the document's: its group, its id. -/
abbrev Th := ByteArray × Int
def th (s : List En) : List Th := s.map (fun p => (p.2.1, p.1))
def KTh : Kd Th := Kd.pair Kd.string (Kd.int .i64)
theorem C_nth_th {w : World} {A : Option Addr} {n : Nat} {xs : List Th} (h : KTh.C w A n xs) (k : Nat) (hk : k < n) :
    ∃ ad x, A = some ad ∧ xs[k]? = some x ∧ w.cell? (ad.add (k * 2)) = some (.string x.1) ∧ w.cell? ⟨(ad.add (k * 2)).block, (ad.add (k * 2)).off + 1, none⟩ = some (.int .i64 x.2) := by
  obtain ⟨ad, x, c, hA, hx, _, ⟨c0, c1, rfl, h0, h1⟩, h3⟩ := C_nth h k hk
  have h0 : c0 = [.string x.1] := h0
  have h1 : c1 = [.int .i64 x.2] := h1
  subst h0 h1
  refine ⟨ad, x, hA, hx, ?_, ?_⟩
  · have := h3 0 _ rfl; exact this
  · have := h3 1 _ rfl; rw [← add_field ad _ 1 (by omega)]; exact this
/-- Where an id stands, or -1. -/
def thAt (r : List Th) (id : Int) : Int := match r.findIdx? (fun p => decide (p.2 = id)) with | some i => (i : Int) | none => -1
theorem thAt_none {r : List Th} {id : Int} (h : ∀ p ∈ r, p.2 ≠ id) : thAt r id = -1 := by
  unfold thAt
  rw [List.findIdx?_eq_none_iff.2 (fun p hp => by simpa using h p hp)]
theorem thAt_some {r : List Th} {id : Int} {j : Nat} {x : Th} (hx : r[j]? = some x) (e : x.2 = id) (h : ∀ p ∈ r.take j, p.2 ≠ id) : thAt r id = j := by
  have hj := (List.getElem?_eq_some_iff.1 hx).1
  have : r.findIdx? (fun p => decide (p.2 = id)) = some j := by
    rw [List.findIdx?_eq_some_iff_getElem]
    refine ⟨hj, ?_, fun i hi => ?_⟩
    · rw [(List.getElem?_eq_some_iff.1 hx).2]; simp [e]
    · have hm : r[i] ∈ r.take j := List.mem_iff_getElem?.2 ⟨i, by rw [List.getElem?_take_of_lt hi]; exact List.getElem?_eq_getElem _⟩
      simpa using h _ hm
  unfold thAt
  rw [this]

set_option maxHeartbeats 400000 in
theorem refAt_any (A : Option Addr) (n cap : Nat) (r : List Th) (id : Int) (w : World) (hC : KTh.C w A n r) :
    Calls Try.prog 15 #[.slice A n cap, .int .i64 id] w fun e w' => e = .returned (.int .i64 (thAt r id)) ∧ Below w.heap.size w w' := by
  have HN := Lib.hid (Kd.C_len hC)
  have HC := Lib.hid hC
  have hm := Kd.C_max hC
  clear hC
  go_enter Try.func15, Try.ntmps15
  go_wp2_with fail
  go_loopw [5] (fun i wr => ∃ j : Nat, i = .int .i64 j ∧ j ≤ n ∧ Hid (∀ p ∈ r.take j, p.2 ≠ id) ∧ Below w.heap.size w wr) (fun i _ => n - (intOf i).toNat)
  case atStart => exact ⟨0, rfl, Nat.zero_le _, Lib.hid (by simp), Below.refl _ _⟩
  case round =>
    obtain ⟨j, rfl, hj, hno, hB⟩ := hrel
    have HB := Lib.hid hB
    clear hB
    by_cases hjn : j < n
    · obtain ⟨ad, x, rfl, hx, d0, d1⟩ := C_nth_th (Kd.C_below HC.out HB.out) j hjn
      have i0 : (0 : Int) ≤ (j : Int) := by omega
      have i1 : (j : Int) < (n : Int) := by omega
      have HX := Lib.hid hx
      clear hx
      by_cases hxi : x.2 = id
      · have hxb : (x.2 == id) = true := by simp [hxi]
        have HT := Lib.hid (thAt_some HX.out hxi hno.out)
        clear hxi
        go_wp2_with fail
        go_ret
        exact ⟨by rw [HT.out]; rfl, HB.out⟩
      · have hxb : (x.2 == id) = false := by simp [hxi]
        have htk : r.take (j + 1) = r.take j ++ [x] := by rw [List.take_add_one, HX.out]; rfl
        have HT := Lib.hid htk
        clear htk
        go_wp2_with fail
        refine ⟨⟨j + 1, by simp, by omega, Lib.hid (fun p hp => ?_), HB.out⟩, ?_⟩
        · rw [HT.out] at hp
          rcases List.mem_append.1 hp with hp | hp
          · exact hno.out p hp
          · rw [List.mem_singleton.1 hp]; exact hxi
        · simp [intOf]
          omega
    · have hjn' : j = n := by omega
      subst hjn'
      have htk : r.take j = r := List.take_of_length_le (by rw [HN.out]; exact Nat.le_refl _)
      rw [htk] at hno
      have HT := Lib.hid (thAt_none hno.out)
      go_wp2_with fail
      go_ret
      exact ⟨by rw [HT.out]; rfl, HB.out⟩

set_option maxHeartbeats 400000 in
theorem same_yes (A : Option Addr) (n c : Nat) (xs : List Int) (A2 : Option Addr) (c2 : Nat) (w : World) (hC : (Kd.int .i64).C w A n xs) (hC2 : (Kd.int .i64).C w A2 n xs) :
    Calls Try.prog 23 #[.slice A n c, .slice A2 n c2] w fun e w' => e = .returned (.bool true) ∧ Below w.heap.size w w' := by
  have HC := Lib.hid hC
  have HC2 := Lib.hid hC2
  have hm := Kd.C_max hC
  have hnn : ((n : Int) != (n : Int)) = false := by simp
  clear hC hC2
  go_enter Try.func23, Try.ntmps23
  go_wp2_with fail
  go_loopw [13] (fun i wr => ∃ j : Nat, i = .int .i64 j ∧ j ≤ n ∧ Below w.heap.size w wr) (fun i _ => n - (intOf i).toNat)
  case atStart => exact ⟨0, rfl, Nat.zero_le _, Below.refl _ _⟩
  case round =>
    obtain ⟨j, rfl, hj, hB⟩ := hrel
    have HB := Lib.hid hB
    clear hB
    by_cases hjn : j < n
    · obtain ⟨ad, x, rfl, hx, d0⟩ := C_nth_scalar (Kd.C_below HC.out HB.out) j hjn
      obtain ⟨ad2, y, rfl, hy, f0⟩ := C_nth_scalar (Kd.C_below HC2.out HB.out) j hjn
      obtain rfl : y = x := Option.some.inj (hy.symm.trans hx)
      have i0 : (0 : Int) ≤ (j : Int) := by omega
      have i1 : (j : Int) < (n : Int) := by omega
      have hxa : (y != y) = false := by simp
      clear hx hy
      go_wp2_with fail
      go_quiet (fail)
      go_wp2_with fail
      refine ⟨⟨j + 1, by simp, by omega, HB.out.trans ((pw_below_drewN (Below.refl _ _) _).mono HB.out.size)⟩, ?_⟩
      simp [intOf]
      omega
    · have hjn' : j = n := by omega
      subst hjn'
      go_wp2_with fail
      go_ret
      exact ⟨rfl, HB.out⟩
end Go.Proofs.Ytdcifghhamondaa
