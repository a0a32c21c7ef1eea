/- A ledger (values of type int) among what a law holds: what each call leaves. -/
import Derived.Test.YtehkhopkedbngaaSep
import Derived.Test.YtehkhopkedbngaaLdMemI
namespace Go.Proofs.Ytehkhopkedbngaa
open Go.RowKit Go.Proofs.YtehkhopkedbngaaW.PrintWords

def ALdI (lb : Nat) (room : Int) (r : List (Ent Int)) : Asn where
  pred w S := LdIAt w S lb room r
  mono h hm := h.mono hm
  move h hm := h.move hm
section
variable {w0 w : World} {lb : Nat} {room : Int} {r : List (Ent Int)} {Ps : List Asn}
theorem Hp.ldIRow (h : Hp w0 w (ALdI lb room r :: Ps)) : Rising r := LdIAt.rising h.head
theorem Hp.ldIOk (h : Hp w0 w (ALdI lb room r :: Ps)) : ∀ p ∈ r, p.1.size ≤ maxLen := by
  obtain ⟨mb, hV⟩ := h.head
  exact fun p hp => hV.map.oks p hp
theorem Hp.ldINew (h : Hp w0 w Ps) (room : Int) : Calls Try.prog 9 #[.int .i64 room] w fun e w' => ∃ lb, e = .returned (.pointer (some ⟨lb, 0, none⟩)) ∧ Hp w0 w' (ALdI lb (max room 0) [] :: Ps) := by
  refine Calls.mono (ldINew_any w room) ?_
  rintro e w' ⟨lb, rfl, hL, hB⟩
  exact ⟨lb, rfl, h.fresh hB hL⟩
theorem Hp.ldIGetC (h : Hp w0 w (ALdI lb room r :: Ps)) (k : ByteArray) (hk : k.size ≤ maxLen) :
    Calls Try.prog 10 #[.pointer (some ⟨lb, 0, none⟩), .string k] w fun e w' => e = .returned (.tuple #[.int .i64 (ldIGet r k).1.1, .bool (ldIGet r k).2]) ∧ Hp w0 w' (ALdI lb room r :: Ps) := by
  refine Calls.mono (ldIGet_any w _ lb room r k h.head hk) ?_
  rintro e w' ⟨rfl, hB⟩
  exact ⟨rfl, h.below hB⟩
theorem Hp.ldIUntilC (h : Hp w0 w (ALdI lb room r :: Ps)) (k : ByteArray) (hk : k.size ≤ maxLen) :
    Calls Try.prog 18 #[.pointer (some ⟨lb, 0, none⟩), .string k] w fun e w' => e = .returned (.tuple #[.int .i64 (ldIGet r k).1.2, .bool (ldIGet r k).2]) ∧ Hp w0 w' (ALdI lb room r :: Ps) := by
  refine Calls.mono (ldIUntil_any w _ lb room r k h.head hk) ?_
  rintro e w' ⟨rfl, hB⟩
  exact ⟨rfl, h.below hB⟩
theorem Hp.ldIPut (h : Hp w0 w (ALdI lb room r :: Ps)) (k : ByteArray) (v : Int) (u : Int) (hk : k.size ≤ maxLen) (hr : r.length ≤ 1000000) :
    Calls Try.prog 12 #[.pointer (some ⟨lb, 0, none⟩), .string k, .int .i64 v, .int .i64 u] w fun e w' => e = .returned (.int .i64 (if mayPut room r k then 0 else 5)) ∧ Hp w0 w' (ALdI lb room (if mayPut room r k then ldPut r k (v, u) else r) :: Ps) := by
  obtain ⟨S1, h1, h2⟩ := h.use1
  refine Calls.mono (ldIPut_any w S1 lb room r k v u h1 hk hr) ?_
  rintro e w' ⟨rfl, hL, hK⟩
  exact ⟨rfl, h2 w' _ hK (hL.mono (fun k hk _ => .inl hk))⟩
theorem Hp.ldIDrop (h : Hp w0 w (ALdI lb room r :: Ps)) (k : ByteArray) (hk : k.size ≤ maxLen) :
    Calls Try.prog 19 #[.pointer (some ⟨lb, 0, none⟩), .string k] w fun e w' => e = .returned (.bool (hasKey r k)) ∧ Hp w0 w' (ALdI lb room (mdel r k) :: Ps) := by
  obtain ⟨S1, h1, h2⟩ := h.use1
  refine Calls.mono (ldIDrop_any w S1 lb room r k h1 hk) ?_
  rintro e w' ⟨rfl, hL, hK⟩
  exact ⟨rfl, h2 w' _ hK (hL.mono (fun k hk _ => .inl hk))⟩
end
end Go.Proofs.Ytehkhopkedbngaa
