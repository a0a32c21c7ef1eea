/- A ledger (values of type string) among what a law holds: what each call leaves. -/
import Derived.Test.YtehkhopkedbngaaSep
import Derived.Test.YtehkhopkedbngaaLdMemS
namespace Go.Proofs.Ytehkhopkedbngaa
open Go.RowKit Go.Proofs.YtehkhopkedbngaaW.PrintWords

def ALdS (lb : Nat) (room : Int) (r : List (Ent ByteArray)) : Asn where
  pred w S := LdSAt w S lb room r
  mono h hm := h.mono hm
  move h hm := h.move hm
section
variable {w0 w : World} {lb : Nat} {room : Int} {r : List (Ent ByteArray)} {Ps : List Asn}
theorem Hp.ldSRow (h : Hp w0 w (ALdS lb room r :: Ps)) : Rising r := LdSAt.rising h.head
theorem Hp.ldSOk (h : Hp w0 w (ALdS lb room r :: Ps)) : ∀ p ∈ r, p.1.size ≤ maxLen := by
  obtain ⟨mb, hV⟩ := h.head
  exact fun p hp => hV.map.oks p hp
theorem Hp.ldSNew (h : Hp w0 w Ps) (room : Int) : Calls Try.prog 13 #[.int .i64 room] w fun e w' => ∃ lb, e = .returned (.pointer (some ⟨lb, 0, none⟩)) ∧ Hp w0 w' (ALdS lb (max room 0) [] :: Ps) := by
  refine Calls.mono (ldSNew_any w room) ?_
  rintro e w' ⟨lb, rfl, hL, hB⟩
  exact ⟨lb, rfl, h.fresh hB hL⟩
theorem Hp.ldSGetC (h : Hp w0 w (ALdS lb room r :: Ps)) (k : ByteArray) (hk : k.size ≤ maxLen) :
    Calls Try.prog 16 #[.pointer (some ⟨lb, 0, none⟩), .string k] w fun e w' => e = .returned (.tuple #[.string (ldSGet r k).1.1, .bool (ldSGet r k).2]) ∧ Hp w0 w' (ALdS lb room r :: Ps) := by
  refine Calls.mono (ldSGet_any w _ lb room r k h.head hk) ?_
  rintro e w' ⟨rfl, hB⟩
  exact ⟨rfl, h.below hB⟩
theorem Hp.ldSUntilC (h : Hp w0 w (ALdS lb room r :: Ps)) (k : ByteArray) (hk : k.size ≤ maxLen) :
    Calls Try.prog 17 #[.pointer (some ⟨lb, 0, none⟩), .string k] w fun e w' => e = .returned (.tuple #[.int .i64 (ldSGet r k).1.2, .bool (ldSGet r k).2]) ∧ Hp w0 w' (ALdS lb room r :: Ps) := by
  refine Calls.mono (ldSUntil_any w _ lb room r k h.head hk) ?_
  rintro e w' ⟨rfl, hB⟩
  exact ⟨rfl, h.below hB⟩
theorem Hp.ldSPut (h : Hp w0 w (ALdS lb room r :: Ps)) (k : ByteArray) (v : ByteArray) (u : Int) (hk : k.size ≤ maxLen) (hr : r.length ≤ 1000000) :
    Calls Try.prog 15 #[.pointer (some ⟨lb, 0, none⟩), .string k, .string v, .int .i64 u] w fun e w' => e = .returned (.int .i64 (if mayPut room r k then 0 else 5)) ∧ Hp w0 w' (ALdS lb room (if mayPut room r k then ldPut r k (v, u) else r) :: Ps) := by
  obtain ⟨S1, h1, h2⟩ := h.use1
  refine Calls.mono (ldSPut_any w S1 lb room r k v u h1 hk hr) ?_
  rintro e w' ⟨rfl, hL, hK⟩
  exact ⟨rfl, h2 w' _ hK (hL.mono (fun k hk _ => .inl hk))⟩
theorem Hp.ldSDrop (h : Hp w0 w (ALdS lb room r :: Ps)) (k : ByteArray) (hk : k.size ≤ maxLen) :
    Calls Try.prog 14 #[.pointer (some ⟨lb, 0, none⟩), .string k] w fun e w' => e = .returned (.bool (hasKey r k)) ∧ Hp w0 w' (ALdS lb room (mdel r k) :: Ps) := by
  obtain ⟨S1, h1, h2⟩ := h.use1
  refine Calls.mono (ldSDrop_any w S1 lb room r k h1 hk) ?_
  rintro e w' ⟨rfl, hL, hK⟩
  exact ⟨rfl, h2 w' _ hK (hL.mono (fun k hk _ => .inl hk))⟩
end
end Go.Proofs.Ytehkhopkedbngaa
