/- The statement LedgerMisses of layer 7: every call of it tells true and leaves what was there as it was. -/
import Derived.Test.YtehkhopkedbngaaLdOps
import Derived.Test.YtehkhopkedbngaaLdHpS
namespace Go.Proofs.Ytehkhopkedbngaa
open Go.RowKit Go.Proofs.YtehkhopkedbngaaW.PrintWords

theorem ldPut_mem {α : Type} {r : List (Ent α)} {k : ByteArray} {x : α × Int} {p : Ent α} (h : p ∈ ldPut r k x) : p = (k, x) ∨ p ∈ r := by
  unfold ldPut at h
  rcases List.mem_append.1 h with h | h
  · exact .inr (List.mem_filter.1 (List.mem_filter.1 h).1).1
  · rcases List.mem_cons.1 h with h | h
    · exact .inl h
    · exact .inr (List.mem_filter.1 (List.mem_filter.1 h).1).1
theorem bytes_ne {a b : ByteArray} (h : a ≠ b) : (a.toList == b.toList) = false := by
  rw [beq_eq_false_iff_ne]
  intro e
  rw [ByteArray.toList_eq, ByteArray.toList_eq] at e
  exact h (Go.WideShapes.bytes_inj e)
theorem ldSGet_none {r : List (Ent ByteArray)} {k : ByteArray} (h : hasKey r k = false) : ldSGet r k = ((ByteArray.empty, 0), false) := by
  rw [has_get] at h
  unfold ldSGet
  cases hm : mget r k with
  | none => rfl
  | some v => rw [hm] at h; exact absurd h (by simp)
theorem ldSGet_some {r : List (Ent ByteArray)} {k : ByteArray} {s : ByteArray} (h : hasKey r k = true) (hs : ∀ p ∈ r, p.2.1 = s) : ∃ u, ldSGet r k = ((s, u), true) := by
  rw [has_get] at h
  unfold ldSGet
  cases hm : mget r k with
  | none => rw [hm] at h; exact absurd h (by simp)
  | some v => 
    have := hs _ (mget_some hm)
    exact ⟨v.2, by rw [← this]⟩

set_option maxHeartbeats 3200000 in
set_option maxRecDepth 100000 in
theorem misses_law (A : Option Addr) (n cap : Nat) (ops : List Op) (key : ByteArray) (w : World) (hC : KOp.C w A n ops) (hc : n ≤ cap) (ho : ∀ x ∈ ops, (Lit.int .i64 x.1).wf = true ∧ (Lit.int .i64 x.2.1).wf = true ∧ (Lit.int .i64 x.2.2.1).wf = true ∧ x.2.2.2.size ≤ maxLen) (hks : key.size ≤ maxLen) :
    Calls Try.prog 4 #[.slice A n cap, .string key] w fun e w' => e = .returned (.bool true) ∧ Below w.heap.size w w' := by
  have HN := Lib.hid (Kd.C_len hC)
  have HC := Lib.hid hC
  have HO := Lib.hid ho
  have hm1 := Kd.C_max hC
  clear hC ho
  by_cases h60 : 60 < n
  · have h60i : (60 : Int) < n := by omega
    go_enter Try.func4, Try.ntmps4
    go_wp2_with (go_at_call 8; refine Calls.mono (awake_any _) ?_; rintro e w1 ⟨rfl, hB⟩)
    go_ret
    exact ⟨rfl, hB⟩
  · have h60i : ¬ (60 : Int) < n := by omega
    go_enter Try.func4, Try.ntmps4
    go_wp2_with fail
    refine Calls.mono (Hp.ldSNew (Hp.nil w) 100) ?_
    rintro e w1 ⟨lb, rfl, hP1⟩
    rw [show max (100 : Int) 0 = 100 by decide] at hP1
    have HP1 := Lib.hid hP1
    clear hP1
    go_wp2_with fail
    go_loopw [6, 22] (fun b i wr => ∃ (k : Nat) (r : List (Ent ByteArray)), i = .int .i64 k ∧ b = .bool (hasKey r key) ∧ k ≤ n ∧ Hp w wr [ALdS lb 100 r] ∧ r.length ≤ k ∧ (∀ p ∈ r, p.2.1 = (⟨#[120]⟩ : ByteArray))) (fun _ i _ => n - (intOf i).toNat)
    case atStart => exact ⟨0, [], rfl, rfl, Nat.zero_le _, HP1.out, Nat.le_refl _, by simp⟩
    case round =>
      obtain ⟨k, r, rfl, rfl, hk, hP, hrl, hxs⟩ := hrel
      have HP := Lib.hid hP
      have HXS := Lib.hid hxs
      clear hP hxs
      by_cases hlt : k < n
      · obtain ⟨ad, kind, ov, ou, og, rfl, hx, hf0, hf1, hf2, hf3⟩ := C_nth_op (Kd.C_below HC.out HP.out.belowW) k hlt
        obtain ⟨_, _, _, hgo⟩ := HO.out _ (List.mem_of_getElem? hx)
        have i0 : (0 : Int) ≤ (k : Int) := by omega
        have i1 : (k : Int) < (n : Int) := by omega
        clear hx
        have hbl : wr.heap.size < (wr.alloc (.cells #[.int .i64 kind, .int .i64 ov, .int .i64 ou, .string og] 27)).heap.size := by simp
        have HRI := Lib.hid HP.out.ldSRow
        by_cases hog : 20 < og.size
        · have hog' : (20 : Int) < og.size := by omega
          have HBW := Lib.hid (HP.out.alloc (.cells #[.int .i64 kind, .int .i64 ov, .int .i64 ou, .string og] 27)).belowW
          go_wp2_with (go_at_call 8; refine Calls.mono (awake_any _) ?_; rintro e w1 ⟨rfl, hB⟩)
          go_ret
          exact ⟨rfl, HBW.out.trans (hB.mono HBW.out.size)⟩
        have hog' : ¬ (20 : Int) < og.size := by omega
        by_cases hk1 : kind = 1
        · have hkb : (kind == 1) = true := by simp [hk1]
          clear hk1
          go_wp2_with fail
          refine Calls.mono (((HP.out.alloc _).swap).ldSDrop og hgo) ?_
          rintro e w2 ⟨rfl, hT2⟩
          have b3 := blk_cell hT2.blk1 3
          simp only [List.getElem?_toArray, List.getElem?_cons_succ, List.getElem?_cons_zero] at b3
          have HT2 := Lib.hid hT2.drop1
          have hdl : (mdel r og).length ≤ r.length := List.length_filter_le _ _
          have hxs : ∀ p ∈ mdel r og, p.2.1 = (⟨#[120]⟩ : ByteArray) := fun p hp => HXS.out p (List.mem_filter.1 hp).1
          have HX2 := Lib.hid hxs
          have HKD := Lib.hid (hasKey_del r og key)
          clear hT2 hxs
          generalize hasKey r og = was at *
          cases hh : hasKey r key
          case' false =>
            rw [hh, Bool.and_false] at HKD
            clear hh
            go_wp2_with fail
            refine ⟨⟨k + 1, mdel r og, by simp, by rw [HKD.out], by omega, HT2.out, by omega, HX2.out⟩, ?_⟩
            simp [intOf]
            omega
          case' true =>
            rw [hh, Bool.and_true] at HKD
            clear hh
            by_cases he : og = key
            · have heq : (og.toList == key.toList) = true := by rw [he]; simp
              have hkd : hasKey (mdel r og) key = false := by rw [HKD.out, he]; simp
              have HKD := Lib.hid hkd
              clear he hkd
              go_wp2_with fail
              refine ⟨⟨k + 1, mdel r og, by simp, by rw [HKD.out], by omega, HT2.out, by omega, HX2.out⟩, ?_⟩
              simp [intOf]
              omega
            · have heq : (og.toList == key.toList) = false := bytes_ne he
              have hkd : hasKey (mdel r og) key = true := by rw [HKD.out, decide_eq_false (fun h : key = og => he h.symm)]; rfl
              have HKD := Lib.hid hkd
              clear he hkd
              go_wp2_with fail
              refine ⟨⟨k + 1, mdel r og, by simp, by rw [HKD.out], by omega, HT2.out, by omega, HX2.out⟩, ?_⟩
              simp [intOf]
              omega
        · have hkb : (kind == 1) = false := by simp [hk1]
          clear hk1
          go_wp2_with fail
          refine Calls.mono (((HP.out.alloc _).swap).ldSPut og ⟨#[120]⟩ ou hgo (by omega)) ?_
          rintro e w2 ⟨rfl, hT2⟩
          rw [if_pos (mayPut_room (room := 100) (key := og) hrl hk (by omega))] at hT2 ⊢
          have b3 := blk_cell hT2.blk1 3
          simp only [List.getElem?_toArray, List.getElem?_cons_succ, List.getElem?_cons_zero] at b3
          have HT2 := Lib.hid hT2.drop1
          have hdl := ldPut_len HRI.out og ((⟨#[120]⟩ : ByteArray), ou)
          have hlen : (ldPut r og ((⟨#[120]⟩ : ByteArray), ou)).length ≤ k + 1 := by rw [hdl]; split <;> omega
          have hxs : ∀ p ∈ ldPut r og ((⟨#[120]⟩ : ByteArray), ou), p.2.1 = (⟨#[120]⟩ : ByteArray) := fun p hp => (ldPut_mem hp).elim (fun e => by rw [e]) (fun h => HXS.out p h)
          have HX2 := Lib.hid hxs
          have HKD := Lib.hid (hasKey_put HRI.out og ((⟨#[120]⟩ : ByteArray), ou) key)
          clear hT2 hxs hdl
          cases hh : hasKey r key
          case' true =>
            rw [hh, Bool.or_true] at HKD
            clear hh
            go_wp2_with fail
            refine ⟨⟨k + 1, ldPut r og ((⟨#[120]⟩ : ByteArray), ou), by simp, by rw [HKD.out], by omega, HT2.out, hlen, HX2.out⟩, ?_⟩
            simp [intOf]
            omega
          case' false =>
            rw [hh, Bool.or_false] at HKD
            clear hh
            by_cases he : og = key
            · have heq : (og.toList == key.toList) = true := by rw [he]; simp
              have hkd : hasKey (ldPut r og ((⟨#[120]⟩ : ByteArray), ou)) key = true := by rw [HKD.out, he]; simp
              have HKD := Lib.hid hkd
              clear he hkd
              go_wp2_with fail
              refine ⟨⟨k + 1, ldPut r og ((⟨#[120]⟩ : ByteArray), ou), by simp, by rw [HKD.out], by omega, HT2.out, hlen, HX2.out⟩, ?_⟩
              simp [intOf]
              omega
            · have heq : (og.toList == key.toList) = false := bytes_ne he
              have hkd : hasKey (ldPut r og ((⟨#[120]⟩ : ByteArray), ou)) key = false := by rw [HKD.out, decide_eq_false (fun h : key = og => he h.symm)]
              have HKD := Lib.hid hkd
              clear he hkd
              go_wp2_with fail
              refine ⟨⟨k + 1, ldPut r og ((⟨#[120]⟩ : ByteArray), ou), by simp, by rw [HKD.out], by omega, HT2.out, hlen, HX2.out⟩, ?_⟩
              simp [intOf]
              omega
      · have hkn : k = n := by omega
        subst hkn
        have HRI := Lib.hid HP.out.ldSRow
        cases hh : hasKey r key
        case' false =>
          have HU := Lib.hid (ldSGet_none hh)
          clear hh
          go_wp2_with fail
          refine Calls.mono (HP.out.ldSGetC key hks) ?_
          rintro e w3 ⟨rfl, hT3⟩
          rw [HU.out]
          have HT3 := Lib.hid hT3
          clear hT3
          go_wp2_with fail
          refine Calls.mono (HT3.out.ldSUntilC key hks) ?_
          rintro e w4 ⟨rfl, hT4⟩
          rw [HU.out]
          have HBW := Lib.hid hT4.belowW
          clear hT4
          go_wp2_with (go_at_call 8; refine Calls.mono (awake_any _) ?_; rintro e w7 ⟨rfl, hB⟩)
          go_ret
          exact ⟨rfl, HBW.out.trans (hB.mono HBW.out.size)⟩
        case' true =>
          obtain ⟨u, hu⟩ := ldSGet_some hh HXS.out
          have HU := Lib.hid hu
          clear hu
          clear hh
          go_wp2_with fail
          refine Calls.mono (HP.out.ldSGetC key hks) ?_
          rintro e w3 ⟨rfl, hT3⟩
          rw [HU.out]
          have HT3 := Lib.hid hT3
          clear hT3
          go_wp2_with fail
          refine Calls.mono (HT3.out.ldSUntilC key hks) ?_
          rintro e w4 ⟨rfl, hT4⟩
          rw [HU.out]
          have HBW := Lib.hid hT4.belowW
          clear hT4
          go_wp2_with (go_at_call 8; refine Calls.mono (awake_any _) ?_; rintro e w7 ⟨rfl, hB⟩)
          go_ret
          exact ⟨rfl, HBW.out.trans (hB.mono HBW.out.size)⟩
end Go.Proofs.Ytehkhopkedbngaa
