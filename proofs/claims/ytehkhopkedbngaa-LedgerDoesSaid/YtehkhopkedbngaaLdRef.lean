/- The document's row of a ledger: At, Drop; and 'texts'. -/
import Derived.Test.YtehkhopkedbngaaSep
import Derived.Test.YtehkhopkedbngaaLdHpMoreI
import Derived.Deep.QuietTactic
import Derived.BigQuiet
namespace Go.Proofs.Ytehkhopkedbngaa
open Go.RowKit Go.Proofs.YtehkhopkedbngaaW.PrintWords

def KE : Kd (Ent Int) := Kd.pair Kd.string (Kd.pair (Kd.int .i64) (Kd.int .i64))
abbrev AEn (v : Value) (r : List (Ent Int)) : Asn := ARow KE 51 v r
theorem infoE : (Try.prog.info? 51).map (fun i => (i.zero, i.size, i.bytes)) = some (some (.agg #[(.string ⟨#[]⟩), (.int .i64 0), (.int .i64 0)]), 3, 32) := by kernel_rfl
theorem infoStr : (Try.prog.info? 9).map (fun i => (i.zero, i.size, i.bytes)) = some (some (.string ⟨#[]⟩), 1, 16) := by kernel_rfl
theorem KE_mkM (w : World) (base : Nat) (ok : Nat → Prop) (k : ByteArray) (v u : Int) : KE.M w base ok (k, (v, u)) [.string k, .int .i64 v, .int .i64 u] := ⟨[.string k], [.int .i64 v, .int .i64 u], rfl, rfl, ⟨[.int .i64 v], [.int .i64 u], rfl, rfl, rfl⟩⟩
theorem C_nth_ent {w : World} {A : Option Addr} {n : Nat} {xs : List (Ent Int)} (h : KE.C w A n xs) (k : Nat) (hk : k < n) :
    ∃ ad key v u, A = some ad ∧ xs[k]? = some (key, (v, u)) ∧ w.cell? (ad.add (k * 3)) = some (.string key) ∧ w.cell? ⟨(ad.add (k * 3)).block, (ad.add (k * 3)).off + 1, none⟩ = some (.int .i64 v) ∧ w.cell? ⟨(ad.add (k * 3)).block, (ad.add (k * 3)).off + 2, none⟩ = some (.int .i64 u) := by
  obtain ⟨ad, ⟨key, v, u⟩, c, hA, hx, _, ⟨c0, c1, rfl, h0, ⟨c2, c3, rfl, h2, h4⟩⟩, h3⟩ := C_nth h k hk
  have h0 : c0 = [.string key] := h0
  have h2 : c2 = [.int .i64 v] := h2
  have h4 : c3 = [.int .i64 u] := h4
  subst h0 h2 h4
  refine ⟨ad, key, v, u, hA, hx, ?_, ?_, ?_⟩
  · have := h3 0 _ rfl; exact this
  · have := h3 1 _ rfl; rw [← add_field ad _ 1 (by omega)]; exact this
  · have := h3 2 _ rfl; rw [← add_field ad _ 2 (by omega)]; exact this
theorem bytes_ne {a b : ByteArray} (h : a ≠ b) : (a.toList == b.toList) = false := by
  rw [beq_eq_false_iff_ne]
  intro e
  rw [ByteArray.toList_eq, ByteArray.toList_eq] at e
  exact h (Go.WideShapes.bytes_inj e)

/-- Where a key stands, or -1. -/
def enAt (r : List (Ent Int)) (k : ByteArray) : Int := match r.findIdx? (fun p => decide (p.1 = k)) with | some i => (i : Int) | none => -1
theorem enAt_none {r : List (Ent Int)} {k : ByteArray} (h : ∀ p ∈ r, p.1 ≠ k) : enAt r k = -1 := by
  unfold enAt
  rw [List.findIdx?_eq_none_iff.2 (fun p hp => by simpa using h p hp)]
theorem enAt_some {r : List (Ent Int)} {k : ByteArray} {j : Nat} {x : Ent Int} (hx : r[j]? = some x) (e : x.1 = k) (h : ∀ p ∈ r.take j, p.1 ≠ k) : enAt r k = j := by
  have hj := (List.getElem?_eq_some_iff.1 hx).1
  have : r.findIdx? (fun p => decide (p.1 = k)) = some j := by
    rw [List.findIdx?_eq_some_iff_getElem]
    refine ⟨hj, ?_, fun i hi => ?_⟩
    · rw [(List.getElem?_eq_some_iff.1 hx).2]; simp [e]
    · have hm : r[i] ∈ r.take j := List.mem_iff_getElem?.2 ⟨i, by rw [List.getElem?_take_of_lt hi]; exact List.getElem?_eq_getElem _⟩
      simpa using h _ hm
  unfold enAt
  rw [this]
theorem enAt_has (r : List (Ent Int)) (k : ByteArray) : enAt r k < 0 ↔ hasKey r k = false := by
  unfold enAt hasKey
  cases h : r.findIdx? (fun p => decide (p.1 = k)) with
  | none =>
    rw [List.findIdx?_eq_none_iff] at h
    rw [List.any_eq_false]
    simp only [Int.reduceNeg, Int.reduceLT, true_iff]
    intro p hp
    simpa using h p hp
  | some i =>
    obtain ⟨hi, h1, _⟩ := List.findIdx?_eq_some_iff_getElem.1 h
    rw [List.any_eq_false]
    constructor
    · intro h2; exact absurd h2 (by show ¬ ((i : Int) < 0); omega)
    · intro h2; exact absurd h1 (h2 _ (List.getElem_mem hi))

set_option maxHeartbeats 400000 in
theorem refAt_any (A : Option Addr) (n cap : Nat) (r : List (Ent Int)) (key : ByteArray) (w : World) (hC : KE.C w A n r) :
    Calls Try.prog 24 #[.slice A n cap, .string key] w fun e w' => e = .returned (.int .i64 (enAt r key)) ∧ Below w.heap.size w w' := by
  have HN := Lib.hid (Kd.C_len hC)
  have HC := Lib.hid hC
  have hm := Kd.C_max hC
  clear hC
  go_enter Try.func24, Try.ntmps24
  go_wp2_with fail
  go_loopw [5] (fun i wr => ∃ j : Nat, i = .int .i64 j ∧ j ≤ n ∧ Hid (∀ p ∈ r.take j, p.1 ≠ key) ∧ Below w.heap.size w wr) (fun i _ => n - (intOf i).toNat)
  case atStart => exact ⟨0, rfl, Nat.zero_le _, Lib.hid (by simp), Below.refl _ _⟩
  case round =>
    obtain ⟨j, rfl, hj, hno, hB⟩ := hrel
    have HB := Lib.hid hB
    clear hB
    by_cases hjn : j < n
    · obtain ⟨ad, pk, pv, pu, rfl, hx, d0, d1, d2⟩ := C_nth_ent (Kd.C_below HC.out HB.out) j hjn
      have i0 : (0 : Int) ≤ (j : Int) := by omega
      have i1 : (j : Int) < (n : Int) := by omega
      have HX := Lib.hid hx
      clear hx
      by_cases hxi : pk = key
      · have hxb : (pk.toList == key.toList) = true := by rw [hxi]; simp
        have HT := Lib.hid (enAt_some HX.out hxi hno.out)
        clear hxi
        go_wp2_with fail
        go_ret
        exact ⟨by rw [HT.out]; rfl, HB.out⟩
      · have hxb : (pk.toList == key.toList) = false := bytes_ne hxi
        have htk : r.take (j + 1) = r.take j ++ [(pk, (pv, pu))] := by rw [List.take_add_one, HX.out]; rfl
        have HT := Lib.hid htk
        clear htk
        go_wp2_with fail
        refine ⟨⟨j + 1, by simp, by omega, Lib.hid (fun p hp => ?_), HB.out⟩, ?_⟩
        · rw [HT.out] at hp
          rcases List.mem_append.1 hp with hp | hp
          · exact hno.out p hp
          · rw [List.mem_singleton.1 hp]; exact hxi
        · simp [intOf]
          omega
    · have hjn' : j = n := by omega
      subst hjn'
      have htk : r.take j = r := List.take_of_length_le (by rw [HN.out]; exact Nat.le_refl _)
      rw [htk] at hno
      have HT := Lib.hid (enAt_none hno.out)
      go_wp2_with fail
      go_ret
      exact ⟨by rw [HT.out]; rfl, HB.out⟩

set_option maxHeartbeats 400000 in
theorem texts_yes (A : Option Addr) (n c : Nat) (xs : List ByteArray) (A2 : Option Addr) (c2 : Nat) (w : World) (hC : Kd.string.C w A n xs) (hC2 : Kd.string.C w A2 n xs) :
    Calls Try.prog 27 #[.slice A n c, .slice A2 n c2] w fun e w' => e = .returned (.bool true) ∧ Below w.heap.size w w' := by
  have HC := Lib.hid hC
  have HC2 := Lib.hid hC2
  have hm := Kd.C_max hC
  have hnn : ((n : Int) != (n : Int)) = false := by simp
  clear hC hC2
  go_enter Try.func27, Try.ntmps27
  go_wp2_with fail
  go_loopw [13] (fun i wr => ∃ j : Nat, i = .int .i64 j ∧ j ≤ n ∧ Below w.heap.size w wr) (fun i _ => n - (intOf i).toNat)
  case atStart => exact ⟨0, rfl, Nat.zero_le _, Below.refl _ _⟩
  case round =>
    obtain ⟨j, rfl, hj, hB⟩ := hrel
    have HB := Lib.hid hB
    clear hB
    by_cases hjn : j < n
    · obtain ⟨ad, x, rfl, hx, d0⟩ := C_nth_scalar (Kd.C_below HC.out HB.out) j hjn
      obtain ⟨ad2, y, rfl, hy, f0⟩ := C_nth_scalar (Kd.C_below HC2.out HB.out) j hjn
      obtain rfl : y = x := Option.some.inj (hy.symm.trans hx)
      have i0 : (0 : Int) ≤ (j : Int) := by omega
      have i1 : (j : Int) < (n : Int) := by omega
      have hxa : (y.toList != y.toList) = false := by simp
      clear hx hy
      go_wp2_with fail
      go_quiet (fail)
      go_wp2_with fail
      refine ⟨⟨j + 1, by simp, by omega, HB.out.trans ((pw_below_drewN (Below.refl _ _) _).mono HB.out.size)⟩, ?_⟩
      simp [intOf]
      omega
    · have hjn' : j = n := by omega
      subst hjn'
      go_wp2_with fail
      go_ret
      exact ⟨rfl, HB.out⟩

set_option maxHeartbeats 800000 in
set_option maxRecDepth 100000 in
theorem refDrop_any (A : Option Addr) (n cap : Nat) (r : List (Ent Int)) (key : ByteArray) (w : World) (hC : KE.C w A n r) (hn : n ≤ 100000) :
    Calls Try.prog 25 #[.slice A n cap, .string key] w fun e w' => ∃ A' c', e = .returned (.slice A' (mdel r key).length c') ∧ KE.R 51 w' 0 (fun k => w.heap.size ≤ k) (.slice A' (mdel r key).length c') (mdel r key) ∧ Below w.heap.size w w' := by
  have HN := Lib.hid (Kd.C_len hC)
  have HC := Lib.hid hC
  have hm := Kd.C_max hC
  clear hC
  go_enter Try.func25, Try.ntmps25
  go_wp2_with fail
  go_loopw [5, 6] (fun v i wr => ∃ j : Nat, i = .int .i64 j ∧ j ≤ n ∧ Hp w wr [AEn v (mdel (r.take j) key)]) (fun _ i _ => n - (intOf i).toNat)
  case atStart => exact ⟨0, rfl, Nat.zero_le _, (Hp.nil w).fresh (Below.refl _ _) (Kd.R_nil _ _ _ _ _)⟩
  case round =>
    obtain ⟨j, rfl, hj, hP⟩ := hrel
    have HP := Lib.hid hP
    clear hP
    by_cases hjn : j < n
    · obtain ⟨ad, pk, pv, pu, rfl, hx, d0, d1, d2⟩ := C_nth_ent (Kd.C_below HC.out HP.out.belowW) j hjn
      have i0 : (0 : Int) ≤ (j : Int) := by omega
      have i1 : (j : Int) < (n : Int) := by omega
      have htk : r.take (j + 1) = r.take j ++ [(pk, (pv, pu))] := by rw [List.take_add_one, hx]; rfl
      have hdel : mdel (r.take (j + 1)) key = mdel (r.take j) key ++ (if pk = key then [] else [(pk, (pv, pu))]) := by
        rw [htk]
        unfold mdel
        rw [List.filter_append]
        congr 1
        by_cases e : pk = key <;> simp [e]
      have HT := Lib.hid hdel
      have hlen : (mdel (r.take j) key).length ≤ 100000 := by
        have h1 : (mdel (r.take j) key).length ≤ (r.take j).length := List.length_filter_le _ _
        rw [List.length_take] at h1
        omega
      clear hx htk hdel
      by_cases hxi : pk = key
      · have hxb : (pk.toList == key.toList) = true := by rw [hxi]; simp
        rw [if_pos hxi, List.append_nil] at HT
        clear hxi
        go_wp2_with fail
        refine ⟨⟨j + 1, by simp, by omega, ?_⟩, ?_⟩
        · rw [HT.out]; exact HP.out
        · simp [intOf]
          omega
      · have hxb : (pk.toList == key.toList) = false := bytes_ne hxi
        rw [if_neg hxi] at HT
        clear hxi
        obtain ⟨okr, hR1, hR2, hR3⟩ := HP.out.appended
        have HR1 := Lib.hid hR1
        have HR2 := Lib.hid hR2
        have HR3 := Lib.hid hR3
        clear hR1 hR2 hR3
        go_wp2_with (at_builtin; refine Kd.R_append KE (w0 := wr) 0 rfl (.tmp 20) (.tmp 25) 47 51 (.agg #[(.string ⟨#[]⟩), (.int .i64 0), (.int .i64 0)]) 32 rfl Try.underlying47 infoE rfl (by decide) (by omega) u5 (mdel (r.take j) key) (pk, (pv, pu)) [.string pk, .int .i64 pv, .int .i64 pu] okr (fun _ => False) rfl rfl (KE_mkM _ _ _ pk pv pu) (fun _ hk => hk.elim) HR2.out HR1.out (Below.refl _ _) (Nat.zero_le _) (by omega) ?_; intro v5 w5 hR5 hB5 hg5 _)
        have HP5 := Lib.hid (HR3.out _ _ _ hR5 hg5)
        clear hR5 hB5 hg5
        try go_wp2_with fail
        go_roundw
        case measure =>
          simp [intOf]
          omega
        case rel =>
          refine ⟨j + 1, by simp, by omega, ?_⟩
          rw [HT.out]
          exact HP5.out
    · have hjn' : j = n := by omega
      subst hjn'
      have htk : r.take j = r := List.take_of_length_le (by rw [HN.out]; exact Nat.le_refl _)
      rw [htk] at HP
      obtain ⟨Av, cv, rfl⟩ := Kd.R_slice HP.out.head
      go_wp2_with fail
      go_ret
      exact ⟨Av, cv, rfl, HP.out.head, HP.out.belowW⟩
end Go.Proofs.Ytehkhopkedbngaa
