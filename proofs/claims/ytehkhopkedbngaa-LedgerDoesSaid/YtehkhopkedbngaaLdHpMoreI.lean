/- A ledger (values of type int) among what a law holds: Len, Copy, Keys, Sweep. -/
import Derived.Test.YtehkhopkedbngaaLdHpI
import Derived.Test.YtehkhopkedbngaaLdMoreI
import Derived.Test.YtehkhopkedbngaaLdKeysI
import Derived.Test.YtehkhopkedbngaaLdSweepI
namespace Go.Proofs.Ytehkhopkedbngaa
open Go.RowKit Go.Proofs.YtehkhopkedbngaaW.PrintWords
section
variable {w0 w : World} {lb : Nat} {room : Int} {r : List (Ent Int)} {Ps : List Asn}
abbrev AStr (v : Value) (xs : List ByteArray) : Asn := ARow Kd.string 9 v xs
theorem Hp.ldILen (h : Hp w0 w (ALdI lb room r :: Ps)) : Calls Try.prog 11 #[.pointer (some ⟨lb, 0, none⟩)] w fun e w' => e = .returned (.int .i64 r.length) ∧ w = w' := ldILen_any w _ lb room r h.head
theorem Hp.ldICopy (h : Hp w0 w (ALdI lb room r :: Ps)) :
    Calls Try.prog 20 #[.pointer (some ⟨lb, 0, none⟩)] w fun e w' => ∃ cb, e = .returned (.pointer (some ⟨cb, 0, none⟩)) ∧ Hp w0 w' (ALdI cb room r :: ALdI lb room r :: Ps) := by
  refine Calls.mono (ldICopy_any w _ lb room r h.head) ?_
  rintro e w' ⟨cb, rfl, hL, hB⟩
  exact ⟨cb, rfl, h.fresh hB hL⟩
theorem Hp.ldIKeys (h : Hp w0 w (ALdI lb room r :: Ps)) (hl : r.length ≤ 1000000) :
    Calls Try.prog 22 #[.pointer (some ⟨lb, 0, none⟩)] w fun e w' => ∃ A c, e = .returned (.slice A r.length c) ∧ Hp w0 w' (AStr (.slice A r.length c) (r.map (·.1)) :: ALdI lb room r :: Ps) := by
  refine Calls.mono (ldIKeys_any w _ lb room r h.head hl) ?_
  rintro e w' ⟨A, c, rfl, hR, hB⟩
  exact ⟨A, c, rfl, h.row hB hR⟩
theorem Hp.ldISweep (h : Hp w0 w (ALdI lb room r :: Ps)) (now : Int) (hl : r.length ≤ 1000000) :
    Calls Try.prog 21 #[.pointer (some ⟨lb, 0, none⟩), .int .i64 now] w fun e w' => ∃ A c, e = .returned (.slice A (past r now).length c) ∧ Hp w0 w' (AStr (.slice A (past r now).length c) ((past r now).map (·.1)) :: ALdI lb room (left r now) :: Ps) := by
  obtain ⟨S1, h1, hS, h2⟩ := h.use
  refine Calls.mono (ldISweep_any w S1 lb room r now h1 hl) ?_
  rintro e w' ⟨A, c, rfl, hR, hL, hK⟩
  refine ⟨A, c, rfl, h2 w' [_, _] hK ?_⟩
  have hR' : (AStr (.slice A (past r now).length c) ((past r now).map (·.1))).pred w' (fun k => w.heap.size ≤ k) := Kd.R_lower (Kd.R_mono (Kd.R_bound hR) (fun k hk => hk.2.1)) (Nat.zero_le _)
  have hL' : Star [ALdI lb room (left r now)] w' (fun k => S1 k) := Star.one hL
  exact (Star.cons hR' hL' (fun k h1 h2 => by have := (hS k h2).2; omega)).mono (fun k hk _ => hk.symm)
end
end Go.Proofs.Ytehkhopkedbngaa
