/- lane.Lanes: Group, Head, Of. -/
import Derived.Test.YtdcifghhamondaaLnAdd
import Derived.Test.YtdcifghhamondaaLnClone
namespace Go.Proofs.Ytdcifghhamondaa
open Go.RowKit Go.Proofs.YtdcifghhamondaaW.PrintWords

def groupOf (s : List En) (id : Int) : ByteArray × Bool := match mget s id with | some v => (v.1, true) | none => (ByteArray.empty, false)
def headOf (l : List Int) : Int × Bool := match l with | [] => (0, false) | x :: _ => (x, true)

set_option maxHeartbeats 400000 in
theorem laneGroup_any (w : World) (ok : Nat → Prop) (lb T : Nat) (s : List En) (id : Int) (h : LnAt w ok lb s T) (hw : (Lit.int .i64 id).wf = true) :
    Calls Try.prog 14 #[.pointer (some ⟨lb, 0, none⟩), .int .i64 id] w fun e w' => e = .returned (.tuple #[.string (groupOf s id).1, .bool (groupOf s id).2]) ∧ Below w.heap.size w w' := by
  obtain ⟨ma, mg, turn, gs, hV, _⟩ := h
  have hlk := hV.at_.look under_at (zero_place w) (a := id) hw
  have hlk : ∃ t : Int, (Instr.lookup 51 (.map (some ma)) (.int .i64 id) true).run Try.prog w = .ok (.tuple #[.agg #[.string (groupOf s id).1, .int .i64 t], .bool (groupOf s id).2]) w := by
    unfold groupOf
    cases hm : mget s id with
    | none => rw [hm] at hlk; exact ⟨0, hlk⟩
    | some v => rw [hm] at hlk; exact ⟨v.2, hlk⟩
  obtain ⟨t, hlk⟩ := hlk
  obtain ⟨t0, t1, t2, hlt⟩ := hV.cells
  generalize groupOf s id = p at *
  obtain ⟨p1, p2⟩ := p
  clear hV
  go_enter Try.func14, Try.ntmps14
  go_wp2_with fail
  refine bodyPost_ret (v := .tuple #[.string p1, .bool p2]) (by simp [results, Try.results14, go_sem]) rfl ?_
  exact ⟨rfl, below_alloc (Below.refl _ _) _⟩

set_option maxHeartbeats 400000 in
theorem laneHead_any (w : World) (ok : Nat → Prop) (lb T : Nat) (s : List En) (g : ByteArray) (h : LnAt w ok lb s T) (hg : g.size ≤ maxLen) :
    Calls Try.prog 16 #[.pointer (some ⟨lb, 0, none⟩), .string g] w fun e w' => e = .returned (.tuple #[.int .i64 (headOf (grp s g)).1, .bool (headOf (grp s g)).2]) ∧ w = w' := by
  obtain ⟨ma, mg, turn, gs, hV, _⟩ := h
  have hlk := hV.rowLook hg
  have hR := hV.rowR g
  obtain ⟨t0, t1, t2, hlt⟩ := hV.cells
  obtain ⟨A, c, hv⟩ := Kd.R_slice hR
  rw [hv] at hR hlk
  have hC := (Kd.R_reads' hR).2.2
  clear hV hR hv
  generalize grp s g = l at *
  cases l with
  | nil =>
    have hlk : (Instr.lookup 52 (.map (some mg)) (.string g) false).run Try.prog w = .ok (.slice A 0 c) w := hlk
    clear hC
    go_enter Try.func16, Try.ntmps16
    go_wp2_with fail
    refine bodyPost_ret (v := .tuple #[.int .i64 0, .bool false]) (by simp [results, Try.results16, go_sem]) rfl ?_
    exact ⟨rfl, rfl⟩
  | cons x l =>
    obtain ⟨ad, y, hA, hy, hc⟩ := C_nth_scalar hC 0 (by simp)
    obtain rfl : y = x := by simpa using hy.symm
    subst hA
    have hc : w.cell? ad = some (.int .i64 y) := by simpa [Addr.add] using hc
    obtain ⟨n, hn⟩ : ∃ n : Nat, n = (y :: l).length := ⟨_, rfl⟩
    have hn0 : (0 : Int) < (n : Int) := by rw [hn]; simp
    rw [← hn] at hlk
    clear hC hy hn
    go_enter Try.func16, Try.ntmps16
    go_wp2_with fail
    refine bodyPost_ret (v := .tuple #[.int .i64 y, .bool true]) (by simp [results, Try.results16, go_sem]) rfl ?_
    exact ⟨rfl, rfl⟩

set_option maxHeartbeats 400000 in
theorem laneOf_any (w : World) (ok : Nat → Prop) (lb T : Nat) (s : List En) (g : ByteArray) (h : LnAt w ok lb s T) (hg : g.size ≤ maxLen) (hT : T ≤ 1000000) :
    Calls Try.prog 20 #[.pointer (some ⟨lb, 0, none⟩), .string g] w fun e w' => ∃ A c, e = .returned (.slice A (grp s g).length c) ∧ (Kd.int .i64).R 3 w' w.heap.size (fun _ => True) (.slice A (grp s g).length c) (grp s g) ∧ Below w.heap.size w w' := by
  obtain ⟨ma, mg, turn, gs, hV, _, _, _, _, hsl⟩ := h
  have hlk := hV.rowLook hg
  have hR := hV.rowR g
  have hgl := grp_len s g
  obtain ⟨t0, t1, t2, hlt⟩ := hV.cells
  obtain ⟨A, c, hv⟩ := Kd.R_slice hR
  rw [hv] at hR hlk
  obtain ⟨_, hc, hC⟩ := Kd.R_reads' hR
  clear hV hR hv
  generalize grp s g = l at *
  have HC := Lib.hid hC
  clear hC
  go_enter Try.func20, Try.ntmps20
  go_wp2_with fail
  refine Calls.mono (clone_int A c l w HC.out hc (by omega)) ?_
  rintro e w' ⟨A', c', rfl, hR, hB⟩
  have HR := Lib.hid hR
  have HB := Lib.hid hB
  clear hR hB
  go_wp2_with fail
  go_ret
  exact ⟨A', c', rfl, HR.out, HB.out⟩
end Go.Proofs.Ytdcifghhamondaa
