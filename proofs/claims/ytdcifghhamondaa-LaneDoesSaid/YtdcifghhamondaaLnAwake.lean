/- daisychainlaw06.awake. -/
import Derived.Test.YtdcifghhamondaaLnHp
namespace Go.Proofs.Ytdcifghhamondaa
open Go.RowKit Go.Proofs.YtdcifghhamondaaW.PrintWords

set_option maxHeartbeats 800000 in
set_option maxRecDepth 100000 in
theorem awake_any (w : World) : Calls Try.prog 8 #[] w fun e w' => e = .returned (.bool true) ∧ Below w.heap.size w w' := by
  go_enter Try.func8, Try.ntmps8
  go_wp2_with fail
  refine Calls.mono (Hp.lnNew (Hp.nil w)) ?_
  rintro e w1 ⟨rfl, hP1⟩
  generalize w.heap.size + 2 = lb at *
  have HP1 := Lib.hid hP1
  clear hP1
  go_wp2_with fail
  refine Calls.mono (HP1.out.lnAdd ⟨#[97]⟩ 1 (by decide) (by decide) (by decide)) ?_
  rintro e w2 ⟨rfl, t1, hP2⟩
  rw [show lAdd [] ⟨#[97]⟩ 1 t1 = [(1, (⟨#[97]⟩, t1))] from rfl] at hP2
  rw [show (!hasEn [] 1) = true from rfl]
  have HP2 := Lib.hid hP2
  clear hP2
  go_wp2_with fail
  refine Calls.mono (HP2.out.lnAdd ⟨#[98]⟩ 2 (by decide) (by decide) (by decide)) ?_
  rintro e w3 ⟨rfl, t2, hP3⟩
  rw [show lAdd [(1, (⟨#[97]⟩, t1))] ⟨#[98]⟩ 2 t2 = [(1, (⟨#[97]⟩, t1)), (2, (⟨#[98]⟩, t2))] from rfl] at hP3
  rw [show (!hasEn [(1, ((⟨#[97]⟩ : ByteArray), t1))] 2) = true from rfl]
  have HP3 := Lib.hid hP3
  clear hP3
  go_wp2_with fail
  refine Calls.mono (HP3.out.lnAdd ⟨#[97]⟩ 3 (by decide) (by decide) (by decide)) ?_
  rintro e w4 ⟨rfl, t3, hP4⟩
  rw [show lAdd [(1, (⟨#[97]⟩, t1)), (2, (⟨#[98]⟩, t2))] ⟨#[97]⟩ 3 t3 = [(1, (⟨#[97]⟩, t1)), (2, (⟨#[98]⟩, t2)), (3, (⟨#[97]⟩, t3))] from rfl] at hP4
  rw [show (!hasEn [(1, ((⟨#[97]⟩ : ByteArray), t1)), (2, ((⟨#[98]⟩ : ByteArray), t2))] 3) = true from rfl]
  have HP4 := Lib.hid hP4
  clear hP4
  go_wp2_with fail
  refine Calls.mono (HP4.out.lnDrop 1 (by decide) (by decide)) ?_
  rintro e w5 ⟨rfl, hP5⟩
  rw [show lDrop [(1, (⟨#[97]⟩, t1)), (2, (⟨#[98]⟩, t2)), (3, (⟨#[97]⟩, t3))] 1 = [(2, (⟨#[98]⟩, t2)), (3, (⟨#[97]⟩, t3))] from rfl] at hP5
  rw [show hasEn [(1, ((⟨#[97]⟩ : ByteArray), t1)), (2, ((⟨#[98]⟩ : ByteArray), t2)), (3, ((⟨#[97]⟩ : ByteArray), t3))] 1 = true from rfl]
  have HP5 := Lib.hid hP5
  clear hP5
  go_wp2_with fail
  refine Calls.mono (HP5.out.lnAdd ⟨#[99]⟩ 2 (by decide) (by decide) (by decide)) ?_
  rintro e w6 ⟨rfl, t4, hP6⟩
  rw [show lAdd [(2, (⟨#[98]⟩, t2)), (3, (⟨#[97]⟩, t3))] ⟨#[99]⟩ 2 t4 = [(2, (⟨#[98]⟩, t2)), (3, (⟨#[97]⟩, t3))] from rfl] at hP6
  rw [show (!hasEn [(2, ((⟨#[98]⟩ : ByteArray), t2)), (3, ((⟨#[97]⟩ : ByteArray), t3))] 2) = false from rfl]
  have HP6 := Lib.hid hP6
  clear hP6
  go_wp2_with fail
  refine Calls.mono (HP6.out.lnHeads (by decide)) ?_
  rintro e w7 ⟨A, c, rfl, hP7⟩
  have hH : (lHeads [(2, ((⟨#[98]⟩ : ByteArray), t2)), (3, ((⟨#[97]⟩ : ByteArray), t3))]).map (·.1) = [2, 3] := rfl
  have hL : (lHeads [(2, ((⟨#[98]⟩ : ByteArray), t2)), (3, ((⟨#[97]⟩ : ByteArray), t3))]).length = 2 := rfl
  rw [hH, hL] at hP7
  rw [hL]
  have hC := (Kd.R_reads' hP7.head).2.2
  obtain ⟨ad, x0, rfl, hx0, d0⟩ := C_nth_scalar hC 0 (by decide)
  obtain ⟨ad1, x1, ha1, hx1, d1⟩ := C_nth_scalar hC 1 (by decide)
  obtain rfl := Option.some.inj ha1
  obtain rfl : 2 = x0 := by simpa using hx0
  obtain rfl : 3 = x1 := by simpa using hx1
  simp [Addr.add] at d0 d1
  have hlen := (Hp.tail hP7).lnLenC
  have HL := Lib.hid hlen
  have HBw := Lib.hid hP7.belowW
  clear hP7 hlen hC ha1 hx0 hx1 hH hL
  go_wp2_with (go_at_call 18; refine Calls.mono HL.out ?_; rintro e w8 ⟨rfl, rfl⟩)
  go_ret
  exact ⟨rfl, HBw.out⟩
end Go.Proofs.Ytdcifghhamondaa
