/- Put together: The document's Num, Text, Nums (what is written). · The document's Read: a number at a byte. · The document's ReadText, ReadNums; ref10's num, text, done. · The document's ReadNums. · The document's reader: num, text, done. · The document's most, numbers, texts. · A command, an answer as arguments: what came in reads as plain data. -/
import Derived.Test.YtidjapjidihbpaaDoorK3
import Derived.Test.YtidjapjidihbpaaDoorK4
import Derived.Test.YtidjapjidihbpaaDoorK5
import Derived.Test.YtidjapjidihbpaaDoorK6
import Derived.Test.YtidjapjidihbpaaDoorK1
set_option linter.unusedVariables false
set_option linter.unusedSimpArgs false
set_option linter.unusedVariables false
set_option linter.unusedSimpArgs false
namespace Go.Proofs.YtidjapjidihbpaaDoor
open Go.RowKit Go.Proofs.YtidjapjidihbpaaDoorW.PrintWords
section
variable {w0 w : World} {Ps : List Asn}
/-- One byte in a block of its own. -/
theorem Hp.oneByte {g : Nat} {x : Int} (h : Hp w0 w (ABlk g (.cells #[.int .u8 x] 5 (0, 0)) :: Ps)) : Hp w0 w (ABy (.slice (some ⟨g, 0, none⟩) 1 1) [x] :: Ps) := by
  obtain ⟨S1, h1, h2⟩ := h.use1
  refine h2 w (ABy (.slice (some ⟨g, 0, none⟩) 1 1) [x]) (Keep.refl _ _) (R_of_nums (fun b hb => ?_) ⟨by simp [nums], .inr ⟨g, 1, #[.int .u8 x], rfl, Nat.zero_le _, h1.2, Nat.le_refl _, by decide, rfl, rfl⟩⟩)
  have : g = b := by simpa [Value.ownBlock] using hb
  exact .inl (this ▸ h1.1)
end
set_option maxHeartbeats 1600000 in
set_option maxRecDepth 100000 in
theorem refNum_nat : ∀ (n : Nat) (w : World), n ≤ 9223372036854775807 →
    Calls Tryd.prog 52 #[.int .i64 (n : Int)] w fun e w' => ∃ A m c, e = .returned (.slice A m c) ∧ Hp w w' [ABy (.slice A m c) (encNat n)] := by
  intro n
  induction n using Nat.strongRecOn with
  | _ n ih =>
    intro w hn
    have h0 : ¬ (n : Int) < 0 := by omega
    by_cases h : n < 128
    · have h1 : (n : Int) < 128 := by omega
      have hw : IntKind.u8.wrap (n : Int) = (n : Int) := by rw [IntKind.wrap_u8']; omega
      have HP := Lib.hid ((Hp.nil w).alloc (.cells #[.int .u8 (n : Int)] 5))
      have HE := Lib.hid (encNat_small h)
      go_enter Tryd.func52, Tryd.ntmps52
      go_wp2_with fail
      go_ret
      rw [HE.out]
      exact ⟨_, _, _, rfl, HP.out.oneByte⟩
    · have h1 : ¬ (n : Int) < 128 := by omega
      have hw : IntKind.u8.wrap (128 + (n : Int) % 128) = 128 + (n : Int) % 128 := by rw [IntKind.wrap_u8']; omega
      have HP := Lib.hid ((Hp.nil w).alloc (.cells #[.int .u8 (128 + (n : Int) % 128)] 5))
      have HE : Hid (encNat n = [128 + (n : Int) % 128] ++ encNat (n / 128)) := Lib.hid (by
        rw [encNat_big h]
        rfl)
      have HL := Lib.hid (encNum_len (v := ((n / 128 : Nat) : Int)) (by omega))
      have hih := fun W => ih (n / 128) (by omega) W (by omega)
      rw [show ((n / 128 : Nat) : Int) = (n : Int) / 128 by omega] at hih
      have IH := Lib.hid hih
      clear ih hih
      go_enter Tryd.func52, Tryd.ntmps52
      go_wp2_with fail
      refine Calls.mono (IH.out _) ?_
      rintro e w2 ⟨A, m, c, rfl, hP⟩
      have HP1 := Lib.hid ((HP.out.oneByte.fresh hP.belowW hP.head).swap)
      have hC := Kd.R_reads' hP.head
      have hlen : (encNat (n / 128)).length ≤ 9 := HL.out
      rw [hC.1] at HP1
      obtain ⟨okr, hR1, hR2, hR3⟩ := HP1.out.appended
      have HR1 := Lib.hid hR1
      have HR2 := Lib.hid hR2
      have HR3 := Lib.hid hR3
      have HC := Lib.hid hC
      clear hP hR1 hR2 hR3 hC
      go_wp2_with (at_builtin; refine Kd.R_append_rows (Kd.int .u8) (w0 := w2) 0 rfl (.tmp 14) (.tmp 17) 30 5 (.int .u8 0) 1 rfl Tryd.underlying30 info_byte rfl (by decide) (by omega) (.slice (some ⟨w.heap.size, 0, none⟩) 1 1) [128 + (n : Int) % 128] (encNat (n / 128)) A m c okr (fun _ => False) rfl rfl HR1.out (by rw [HC.out.1]; exact HC.out.2.2) (fun _ _ h => h) (fun _ hk => hk.elim) HR2.out (Below.refl _ _) (Nat.zero_le _) (by rw [HC.out.1]; simp; omega) ?_; intro v5 w5 hR5 hB5 hg5 _)
      have hP5 := HR3.out _ _ _ hR5 hg5
      rw [← HE.out] at hP5
      have HP5 := Lib.hid hP5.drop1
      obtain ⟨A5, c5, hv5⟩ := Kd.R_slice HP5.out.head
      generalize (encNat n).length = n5 at hv5
      subst hv5
      clear hR5 hB5 hg5 hP5
      go_ret
      exact ⟨A5, n5, c5, rfl, HP5.out⟩
theorem refNum_any {v : Int} (h0 : 0 ≤ v) (h1 : v ≤ 9223372036854775807) (w : World) :
    Calls Tryd.prog 52 #[.int .i64 v] w fun e w' => ∃ A m c, e = .returned (.slice A m c) ∧ Hp w w' [ABy (.slice A m c) (encNum v)] := by
  obtain ⟨n, rfl⟩ : ∃ n : Nat, v = (n : Int) := ⟨v.toNat, by omega⟩
  unfold encNum
  rw [Int.toNat_natCast]
  exact refNum_nat n w (by omega)
set_option maxHeartbeats 800000 in
set_option maxRecDepth 100000 in
theorem refText_any (s : ByteArray) (hs : s.size ≤ 1000000) (w : World) :
    Calls Tryd.prog 53 #[.string s] w fun e w' => ∃ A m c, e = .returned (.slice A m c) ∧ Hp w w' [ABy (.slice A m c) (encText s)] := by
  have HL := Lib.hid (encNum_len (v := (s.size : Int)) (by omega))
  go_enter Tryd.func53, Tryd.ntmps53
  go_wp2_with fail
  refine Calls.mono (refNum_any (v := (s.size : Int)) (by omega) (by omega) w) ?_
  rintro e w1 ⟨A1, n1, c1, rfl, hP⟩
  have hR1 : (Kd.int .u8).R 5 w1 0 (fun k => w.heap.size ≤ k) (.slice A1 n1 c1) (encNum s.size) := hP.head
  have HW1 := Lib.hid (own_lift (R_nums hR1) hR1.1)
  have HB1 := Lib.hid hP.belowW
  have hlen : (encNum s.size).length + s.size ≤ 140737488355328 := by have := HL.out; omega
  clear hP hR1
  go_wp2_with (at_builtin; refine print_append_str w.heap.size rfl (.tmp 5) (.tmp 6) 30 9 5 rfl Tryd.underlying30 Tryd.underlying9 info_byte (.slice A1 n1 c1) (encNum s.size) s rfl rfl HW1.out HB1.out HB1.out.size hlen ?_; intro v5 w5 hR5 hB5 hg5)
  have hRR : (Kd.int .u8).R 5 w5 0 (fun k => w.heap.size ≤ k) v5 (encNum s.size ++ bytesOf s) := R_of_nums (fun b hb => own_base hR5 b hb) (own_weaken hR5 (Nat.zero_le _))
  have HP5 : Hid (Hp w w5 [ABy v5 (encNum s.size ++ bytesOf s)]) := Lib.hid ((Hp.nil w).fresh (Q := ABy v5 (encNum s.size ++ bytesOf s)) hB5 hRR)
  obtain ⟨A5, c5, hv5⟩ := Kd.R_slice HP5.out.head
  generalize (encNum s.size ++ bytesOf s).length = n5 at hv5
  subst hv5
  clear hR5 hB5 hg5 hRR
  go_ret
  exact ⟨A5, n5, c5, rfl, HP5.out⟩
set_option maxHeartbeats 1600000 in
set_option maxRecDepth 100000 in
theorem refNums_any (B : Option Addr) (k bcap : Nat) (ys : List Int) (w : World) (hD : (Kd.int .i64).C w B k ys) (hk : k ≤ 1000) (hy : ∀ y ∈ ys, 0 ≤ y ∧ y ≤ 9223372036854775807) :
    Calls Tryd.prog 59 #[.slice B k bcap] w fun e w' => ∃ A m c, e = .returned (.slice A m c) ∧ Hp w w' [ABy (.slice A m c) (encNum k ++ (ys.map encNum).flatten)] := by
  have HD := Lib.hid hD
  have HY := Lib.hid hy
  have HK := Lib.hid (Kd.C_len hD)
  clear hD hy
  have HL0 := Lib.hid (encNum_len (v := (k : Int)) (by omega))
  go_enter Tryd.func59, Tryd.ntmps59
  go_wp2_with fail
  refine Calls.mono (refNum_any (v := (k : Int)) (by omega) (by omega) w) ?_
  rintro e w1 ⟨A1, n1, c1, rfl, hP⟩
  have HP1 := Lib.hid hP
  clear hP
  go_wp2_with fail
  go_loopw [3, 4] (fun o i wr => ∃ j : Nat, i = .int .i64 j ∧ j ≤ k ∧ Hp w wr [ABy o (encNum k ++ ((ys.take j).map encNum).flatten)]) (fun _ i _ => k - (intOf i).toNat)
  case atStart => exact ⟨0, rfl, Nat.zero_le _, by simpa using HP1.out⟩
  case round =>
    obtain ⟨j, rfl, hj, hQ⟩ := hrel
    have HQ := Lib.hid hQ
    have HFL := Lib.hid (flat_le (f := encNum) (b := 9) (xs := ys) (fun x hx => encNum_len (HY.out x hx).2) j)
    clear hQ
    by_cases hjk : j < k
    case neg =>
      have hjk' : j = k := by omega
      subst hjk'
      have htk : ys.take j = ys := List.take_of_length_le (by rw [HK.out]; exact Nat.le_refl _)
      rw [htk] at HQ
      clear htk
      obtain ⟨A2, c2, hv2⟩ := Kd.R_slice HQ.out.head
      generalize (encNum j ++ (ys.map encNum).flatten).length = n2 at hv2
      subst hv2
      go_wp2_with fail
      go_ret
      exact ⟨A2, n2, c2, rfl, HQ.out⟩
    case pos =>
      obtain ⟨ad, y, rfl, hx, d0⟩ := C_nth_scalar (Kd.C_below HD.out HQ.out.belowW) j hjk
      have i0 : (0 : Int) ≤ (j : Int) := by omega
      have i1 : (j : Int) < (k : Int) := by omega
      have hy1 := HY.out y (List.mem_of_getElem? hx)
      have HT := Lib.hid (flat_next (f := encNum) hx)
      have HL := Lib.hid (encNum_len hy1.2)
      clear hx
      go_wp2_with fail
      refine Calls.mono (refNum_any hy1.1 hy1.2 wr) ?_
      rintro e w3 ⟨A3, n3, c3, rfl, hP⟩
      have HP3 := Lib.hid (HQ.out.fresh hP.belowW hP.head)
      clear hP
      obtain ⟨okr, hR1, hR2, hR3⟩ := HP3.out.swap.appended
      have HC_ := Lib.hid (Kd.R_reads' HP3.out.head)
      have HR1_ := Lib.hid hR1
      have HR2_ := Lib.hid hR2
      have HR3_ := Lib.hid hR3
      clear hR1 hR2 hR3
      go_wp2_with (at_builtin; refine Kd.R_append_rows (Kd.int .u8) (w0 := w3) 0 rfl (.tmp 14) (.tmp 19) 30 5 (.int .u8 0) 1 rfl Tryd.underlying30 info_byte rfl (by decide) (by omega) u3 (encNum k ++ ((ys.take j).map encNum).flatten) (encNum y) A3 n3 c3 okr (fun _ => False) rfl rfl HR1_.out (by rw [HC_.out.1]; exact HC_.out.2.2) (fun _ _ h => h) (fun _ hk => hk.elim) HR2_.out (Below.refl _ _) (Nat.zero_le _) (by rw [HC_.out.1]; simp only [List.length_append]; have := HFL.out; have := HL0.out; have := HL.out; rw [HK.out] at *; omega) ?_; intro v5 w5 hR5 hB5 hg5 _; have HP5 := Lib.hid (HR3_.out _ _ _ hR5 hg5).drop1; clear hR5 hB5 hg5)
      clear HC_ HR1_ HR2_ HR3_ okr
      refine ⟨⟨j + 1, by simp, by omega, ?_⟩, ?_⟩
      · rw [HT.out, ← List.append_assoc]
        exact HP5.out
      · simp [intOf]
        omega
end Go.Proofs.YtidjapjidihbpaaDoor
set_option linter.unusedVariables false
set_option linter.unusedSimpArgs false
namespace Go.Proofs.YtidjapjidihbpaaDoor
open Go.RowKit Go.Proofs.YtidjapjidihbpaaDoorW.PrintWords
/-- What may be read at a byte: the number, the byte behind it, and what is amiss. -/
def refRd (bs : List Int) (at_ : Nat) : Int × (Nat × Int) := match decNum (bs.drop at_) with
  | .ok (n, k) => (n, (at_ + k, 0))
  | .error c => (0, (at_, c))
theorem refRd_err {bs : List Int} {at_ : Nat} {c : Int} (h : decNum (bs.drop at_) = .error c) : refRd bs at_ = (0, (at_, c)) := by unfold refRd; rw [h]
theorem refRd_ok {bs : List Int} {at_ : Nat} {n : Int} {k : Nat} (h : decNum (bs.drop at_) = .ok (n, k)) : refRd bs at_ = (n, (at_ + k, 0)) := by unfold refRd; rw [h]
theorem decVal_drop {l : List Int} {j : Nat} {x : Int} (h : l[j]? = some x) : decVal (l.drop j) = x.toNat % 128 + 128 * decVal (l.drop (j + 1)) := by
  obtain ⟨hj, rfl⟩ := List.getElem?_eq_some_iff.1 h
  rw [List.drop_eq_getElem_cons hj]
  rfl
set_option maxHeartbeats 1600000 in
set_option maxRecDepth 100000 in
theorem refRead_any {A : Option Addr} {n c : Nat} {bs : List Int} {w : World} (hA : Rd w A n c bs) (hn : n ≤ 1000000) (hb : ByOk bs) (at0 : Nat) (hat : at0 ≤ n) :
    Calls Tryd.prog 78 #[.slice A n c, .int .i64 (at0 : Int)] w fun e w' => e = .returned (.tuple #[.int .i64 (refRd bs at0).1, .int .i64 (refRd bs at0).2.1, .int .i64 (refRd bs at0).2.2]) ∧ w = w' := by
  have HA := Lib.hid hA
  have hln := hA.len
  have HB := Lib.hid hb
  obtain ⟨R, hR⟩ : ∃ R, R = refRd bs at0 := ⟨_, rfl⟩
  have HERR := Lib.hid (fun c => refRd_err (bs := bs) (at_ := at0) (c := c))
  have HOK := Lib.hid (fun n k => refRd_ok (bs := bs) (at_ := at0) (n := n) (k := k))
  rw [← hR] at HERR HOK ⊢
  have HDL := Lib.hid (show (bs.drop at0).length = n - at0 by rw [List.length_drop, hln])
  have HDG := Lib.hid (show ∀ k : Nat, (bs.drop at0)[k]? = bs[at0 + k]? from fun k => List.getElem?_drop)
  have HRL := Lib.hid (runLen_le (bs.drop at0))
  generalize bs.drop at0 = l at *
  clear hA hb hR hln
  have hRL : runLen l ≤ n - at0 := by have := HRL.out; have := HDL.out; omega
  go_enter Tryd.func78, Tryd.ntmps78
  go_wp2_with fail
  go_loopw [7] (fun ev wr => ∃ k : Nat, ev = .int .i64 ((at0 : Int) + (k : Int)) ∧ k ≤ 9 ∧ Hid (k ≤ runLen l) ∧ wr = w) (fun ev _ => (n + 10) - (intOf ev).toNat)
  case atStart => exact ⟨0, by simp, by omega, Lib.hid (Nat.zero_le _), rfl⟩
  case round =>
    obtain ⟨k, rfl, hk, hKR, rfl⟩ := hrel
    by_cases hend : at0 + k < n
    case neg =>
      have e1 : ¬ (at0 : Int) + (k : Int) < (n : Int) := by omega
      by_cases hk9 : k = 9
      case pos =>
        subst hk9
        have HE := Lib.hid (HERR.out _ (decNum_9 hKR.out))
        go_wp2_with fail
        go_ret3
        rw [HE.out]
        exact ⟨rfl, rfl⟩
      case neg =>
        have hk8 : k < 9 := by omega
        have e2 : ¬ (at0 : Int) + 9 ≤ (at0 : Int) + (k : Int) := by omega
        have HE := Lib.hid (HERR.out _ (decNum_end hKR.out hk8 (by rw [HDL.out]; omega)))
        go_wp2_with fail
        go_ret3
        rw [HE.out]
        exact ⟨rfl, rfl⟩
    case pos =>
    have e1 : (at0 : Int) + (k : Int) < (n : Int) := by omega
    have e0 : (0 : Int) ≤ (at0 : Int) + (k : Int) := by omega
    by_cases hk9 : k = 9
    case pos =>
      subst hk9
      have HE := Lib.hid (HERR.out _ (decNum_9 hKR.out))
      go_wp2_with fail
      go_ret3
      rw [HE.out]
      exact ⟨rfl, rfl⟩
    case neg =>
    have hk8 : k < 9 := by omega
    have e2 : (at0 : Int) + (k : Int) < (at0 : Int) + 9 := by omega
    obtain ⟨ad, x, rfl, hx, d0⟩ := C_nth_scalar HA.out.1 (at0 + k) hend
    have hxl : l[k]? = some x := by rw [HDG.out]; exact hx
    have hxb := HB.out x (List.mem_of_getElem? hx)
    have hmore := runLen_more hKR.out hxl
    have HMO := Lib.hid hmore
    have HXL := Lib.hid hxl
    clear hx hxl hmore
    by_cases hc : 128 ≤ x
    case pos =>
      go_wp2_with fail
      refine ⟨⟨k + 1, by simp; omega, by omega, Lib.hid (HMO.out.1 hc), trivial⟩, ?_⟩
      simp [intOf]
      omega
    case neg =>
    have hrl := HMO.out.2 hc
    have HO := Lib.hid (fun h => HOK.out _ _ (decNum_ok hrl hk8 HXL.out h))
    have HZ := Lib.hid (fun h1 h2 => HERR.out _ (decNum_zero (l := l) hrl hk8 h1 h2))
    by_cases hz : x = 0 ∧ 0 < k
    case pos =>
      have hxz : (x == 0) = true := by simpa using hz.1
      have hk1 : (at0 : Int) < (at0 : Int) + (k : Int) := by omega
      have HE := Lib.hid (HZ.out (by rw [HXL.out, hz.1]) hz.2)
      clear hz
      go_wp2_with fail
      go_ret3
      rw [HE.out]
      exact ⟨rfl, rfl⟩
    case neg =>
    have HE := Lib.hid (HO.out (by omega))
    have hkl : (l.take (k + 1)).length = k + 1 := by
      rw [List.length_take]
      have := (List.getElem?_eq_some_iff.1 HXL.out).1
      omega
    have HKL := Lib.hid hkl
    have HLT := Lib.hid (show ∀ j : Nat, j ≤ k → (l.take (k + 1))[j]? = bs[at0 + j]? from fun j hj => by rw [List.getElem?_take, if_pos (by omega), HDG.out])
    have HVL := Lib.hid (decVal_lt)
    generalize l.take (k + 1) = lt at *
    have hz2 : x = 0 ∨ x ≠ 0 := by omega
    have HZ2 := Lib.hid hz
    clear hkl hz HO
    rcases hz2 with hx0 | hx0
    case' inl =>
      have hxz : (x == 0) = true := by simpa using hx0
      have hk1 : ¬ (at0 : Int) < (at0 : Int) + (k : Int) := by have := HZ2.out; omega
      have HX0 := Lib.hid hx0
      clear hx0
    case' inr =>
      have hxz : (x == 0) = false := by simpa using hx0
      have HX0 := Lib.hid hx0
      clear hx0
    all_goals
      go_wp2_with fail
      clear d0
      go_loopw [8, 9] (fun nv kv wz => ∃ j V : Nat, nv = .int .i64 (V : Int) ∧ kv = .int .i64 ((at0 : Int) + (j : Int) - 1) ∧ j ≤ k + 1 ∧ Hid (V = decVal (lt.drop j)) ∧ wz = wr) (fun _ kv _ => (intOf kv - (at0 : Int) + 1).toNat)
      case atStart => exact ⟨k + 1, 0, rfl, by congr 1; omega, Nat.le_refl _, Lib.hid (by rw [List.drop_of_length_le (by rw [HKL.out]; exact Nat.le_refl _)]; rfl), rfl⟩
      case round =>
        obtain ⟨j, V, rfl, rfl, hj, hV, rfl⟩ := hrel
        by_cases hj0 : j = 0
        case pos =>
          subst hj0
          have hge : ¬ (at0 : Int) ≤ (at0 : Int) + ((0 : Nat) : Int) - 1 := by omega
          have hVf : V = decVal lt := hV.out
          have HVF := Lib.hid hVf
          clear hVf
          go_wp2_with fail
          go_ret3
          rw [HE.out, HVF.out]
          exact ⟨by congr 4, rfl⟩
        case neg =>
          obtain ⟨i, rfl⟩ : ∃ i, j = i + 1 := ⟨j - 1, by omega⟩
          have hje : (at0 : Int) + ((i + 1 : Nat) : Int) - 1 = (at0 : Int) + (i : Int) := by omega
          rw [hje]
          have e3 : (at0 : Int) ≤ (at0 : Int) + (i : Int) := by omega
          have e4 : (0 : Int) ≤ (at0 : Int) + (i : Int) := by omega
          have e5 : (at0 : Int) + (i : Int) < (n : Int) := by omega
          obtain ⟨ad2, y, e6, hy, d0⟩ := C_nth_scalar HA.out.1 (at0 + i) (by omega)
          obtain rfl : ad = ad2 := Option.some.inj e6
          have hyb := HB.out y (List.mem_of_getElem? hy)
          have hyl : lt[i]? = some y := by rw [HLT.out i (by omega)]; exact hy
          have hdv := decVal_drop hyl
          have hVb : V < 128 ^ 8 := by
            rw [hV.out]
            have h1 := HVL.out (lt.drop (i + 1))
            have h2 : (lt.drop (i + 1)).length ≤ 8 := by rw [List.length_drop, HKL.out]; omega
            exact Nat.lt_of_lt_of_le h1 (Nat.pow_le_pow_right (by omega) h2)
          have h8 : (128 : Nat) ^ 8 = 72057594037927936 := by decide
          rw [h8] at hVb
          have HDV := Lib.hid hdv
          clear hje hy hyl hdv h8 e6
          go_wp2_with fail
          refine ⟨⟨i, V * 128 + y.toNat % 128, ?_, rfl, by omega, Lib.hid ?_, trivial⟩, ?_⟩
          · congr 1
            omega
          · rw [HDV.out, ← hV.out]
            omega
          · simp [intOf]
            try omega
end Go.Proofs.YtidjapjidihbpaaDoor
set_option linter.unusedVariables false
set_option linter.unusedSimpArgs false
namespace Go.Proofs.YtidjapjidihbpaaDoor
open Go.RowKit Go.Proofs.YtidjapjidihbpaaDoorW.PrintWords
theorem refRd_rs (bs : List Int) (at0 : Nat) : refRd bs at0 = ((rsNum bs ⟨at0, 0⟩).2, ((rsNum bs ⟨at0, 0⟩).1.at_, (rsNum bs ⟨at0, 0⟩).1.no)) := by
  unfold refRd rsNum
  rw [if_pos rfl]
  cases decNum (bs.drop at0) with
  | ok p => rfl
  | error c => rfl
/-- What of a number that was read: its bounds. -/
theorem rsNum_in {bs : List Int} (hb : ByOk bs) {s : Rs} (hs : s.at_ ≤ bs.length) : 0 ≤ (rsNum bs s).2 ∧ (rsNum bs s).2 ≤ 9223372036854775807 ∧ (rsNum bs s).1.at_ ≤ bs.length ∧ ((rsNum bs s).1.no = 0 ∨ (rsNum bs s).1.at_ = s.at_) := by
  have hft : Fit bs s (bs.take s.at_) := fun _ => ⟨rfl, hs⟩
  have h := Fit.num hb hft
  refine ⟨h.2.1, h.2.2, ?_⟩
  unfold rsNum
  split
  · cases hd : decNum (bs.drop s.at_) with
    | ok p =>
      have := (decNum_some (hb.drop _) hd).2.2.2.2.2
      rw [List.length_drop] at this
      exact ⟨by dsimp only; omega, .inl rfl⟩
    | error c => exact ⟨hs, .inr rfl⟩
  · exact ⟨hs, .inr rfl⟩
set_option maxHeartbeats 1600000 in
set_option maxRecDepth 100000 in
theorem refReadText_any {A : Option Addr} {n c : Nat} {bs : List Int} {w : World} (hA : Rd w A n c bs) (hn : n ≤ 1000000) (hb : ByOk bs) (at0 : Nat) (hat : at0 ≤ n) (most : Int) :
    Calls Tryd.prog 79 #[.slice A n c, .int .i64 (at0 : Int), .int .i64 most] w fun e w' => e = .returned (.tuple #[.string (rsText bs most ⟨at0, 0⟩).2, .int .i64 (rsText bs most ⟨at0, 0⟩).1.at_, .int .i64 (rsText bs most ⟨at0, 0⟩).1.no]) ∧ w = w' := by
  have HA := Lib.hid hA
  have HN := Lib.hid hA.len
  have HB := Lib.hid hb
  have HRD := Lib.hid (refRead_any hA hn hb at0 hat)
  have hin := rsNum_in hb (s := ⟨at0, 0⟩) (by rw [← hA.len]; exact hat)
  have HSTAY := Lib.hid (rsText_stay (bs := bs) (most := most) (s := ⟨at0, 0⟩))
  have HGO := Lib.hid (rsText_go (most := most) (s := ⟨at0, 0⟩) hb)
  rw [refRd_rs] at HRD
  obtain ⟨⟨⟨a1, no1⟩, m⟩, hr⟩ : ∃ r, r = rsNum bs ⟨at0, 0⟩ := ⟨_, rfl⟩
  rw [← hr] at HSTAY HGO HRD hin
  obtain ⟨R, hR⟩ : ∃ R, R = rsText bs most ⟨at0, 0⟩ := ⟨_, rfl⟩
  rw [← hR] at HSTAY HGO ⊢
  dsimp only at HSTAY HGO HRD hin
  rw [← HN.out] at HGO
  rw [← hA.len] at hin
  clear hR hr hA hb
  go_enter Tryd.func79, Tryd.ntmps79
  go_wp2_with fail
  refine Calls.mono HRD.out ?_
  rintro e w1 ⟨rfl, rfl⟩
  by_cases h0 : no1 = 0
  case neg =>
    have HE := Lib.hid (HSTAY.out h0)
    have hne : (no1 != 0) = true := by simpa using h0
    have ha1 : a1 = at0 := by rcases hin.2.2.2 with h | h; exact absurd h h0; exact h
    have HA1 := Lib.hid ha1
    clear h0 ha1
    go_wp2_with fail
    go_ret3
    rw [HE.out]
    first
      | exact ⟨rfl, rfl⟩
      | (rw [HA1.out]; exact ⟨rfl, rfl⟩)
      | (have := HA1.out; subst this; exact ⟨rfl, rfl⟩)
  case pos =>
  subst h0
  obtain ⟨hpos, g1, g2, g3⟩ := HGO.out rfl
  have G1 := Lib.hid g1
  have G2 := Lib.hid g2
  have G3 := Lib.hid g3
  clear g1 g2 g3
  by_cases hm : most < m
  case pos =>
    have HE := Lib.hid (G1.out hm)
    go_wp2_with fail
    go_ret3
    rw [HE.out]
    exact ⟨rfl, rfl⟩
  case neg =>
  by_cases hl : (n : Int) - (a1 : Int) < m
  case pos =>
    have HE := Lib.hid (G2.out (by omega) (by omega))
    go_wp2_with fail
    go_ret3
    rw [HE.out]
    exact ⟨rfl, rfl⟩
  case neg =>
  have HE := Lib.hid (G3.out (by omega) (by omega))
  obtain ⟨mn, rfl⟩ : ∃ mn : Nat, m = (mn : Int) := ⟨m.toNat, by omega⟩
  rw [Int.toNat_natCast] at HE
  obtain ⟨inf, hin1, hin2⟩ := info_at5
  obtain ⟨ad, hsl, hCm⟩ := mid_row (n := n) 30 5 Tryd.underlying30 hin1 hin2 a1 mn (by omega) HA.out.2 HA.out.1 (by omega)
  rw [Int.natCast_add] at hsl
  have hcv := conv_text w ad mn (c - a1) _ (fun x hx => HB.out x (List.drop_subset _ _ (List.take_subset _ _ hx))) hCm
  generalize textOf ((bs.drop a1).take mn) = tx at *
  clear hin1 hin2 hCm
  go_wp2_with fail
  go_ret3
  rw [HE.out]
  exact ⟨by simp, rfl⟩
end Go.Proofs.YtidjapjidihbpaaDoor
set_option linter.unusedVariables false
set_option linter.unusedSimpArgs false
namespace Go.Proofs.YtidjapjidihbpaaDoor
open Go.RowKit Go.Proofs.YtidjapjidihbpaaDoorW.PrintWords
theorem rsNum_free {bs : List Int} {s : Rs} (h : s.no = 0) : rsNum bs ⟨s.at_, 0⟩ = rsNum bs s := by
  obtain ⟨a, no⟩ := s
  cases h
  rfl
set_option maxHeartbeats 1600000 in
set_option maxRecDepth 100000 in
theorem refReadNums_any {A : Option Addr} {n c : Nat} {bs : List Int} {w : World} (hA : Rd w A n c bs) (hn : n ≤ 1000000) (hb : ByOk bs) (at0 : Nat) (hat : at0 ≤ n) (most : Int) (hmost : 0 ≤ most ∧ most ≤ 100) :
    Calls Tryd.prog 58 #[.slice A n c, .int .i64 (at0 : Int), .int .i64 most] w fun e w' => ∃ B d, e = .returned (.tuple #[.slice B (rsNums bs most ⟨at0, 0⟩).2.length d, .int .i64 (rsNums bs most ⟨at0, 0⟩).1.at_, .int .i64 (rsNums bs most ⟨at0, 0⟩).1.no]) ∧ Hp w w' [AInt (.slice B (rsNums bs most ⟨at0, 0⟩).2.length d) (rsNums bs most ⟨at0, 0⟩).2] := by
  have HA := Lib.hid hA
  have HN := Lib.hid hA.len
  have HB := Lib.hid hb
  have HRD := Lib.hid (refRead_any hA hn hb at0 hat)
  have hin := rsNum_in hb (s := ⟨at0, 0⟩) (by rw [← hA.len]; exact hat)
  have HSTAY := Lib.hid (rsNums_stay (bs := bs) (most := most) (s := ⟨at0, 0⟩))
  have HGO := Lib.hid (rsNums_go (bs := bs) (most := most) (s := ⟨at0, 0⟩))
  have HNIL := Lib.hid ((Hp.nil w).nilRow (Kd.int .i64) 3)
  rw [refRd_rs] at HRD
  obtain ⟨⟨⟨a1, no1⟩, m⟩, hr⟩ : ∃ r, r = rsNum bs ⟨at0, 0⟩ := ⟨_, rfl⟩
  rw [← hr] at HSTAY HGO HRD hin
  obtain ⟨R, hR⟩ : ∃ R, R = rsNums bs most ⟨at0, 0⟩ := ⟨_, rfl⟩
  rw [← hR] at HSTAY HGO ⊢
  dsimp only at HSTAY HGO HRD hin
  rw [← hA.len] at hin
  clear hR hr hA hb
  go_enter Tryd.func58, Tryd.ntmps58
  go_wp2_with fail
  refine Calls.mono HRD.out ?_
  rintro e w1 ⟨rfl, rfl⟩
  by_cases h0 : no1 = 0
  case neg =>
    have HE := Lib.hid (HSTAY.out h0)
    have hne : (no1 != 0) = true := by simpa using h0
    have ha1 : a1 = at0 := by rcases hin.2.2.2 with h | h; exact absurd h h0; exact h
    subst ha1
    clear h0 hin
    go_wp2_with fail
    go_ret3
    rw [HE.out]
    exact ⟨none, 0, rfl, HNIL.out⟩
  case pos =>
  subst h0
  obtain ⟨g1, g2⟩ := HGO.out rfl
  have G1 := Lib.hid g1
  have G2 := Lib.hid g2
  clear g1 g2
  by_cases hm : most < m
  case pos =>
    have HE := Lib.hid (G1.out hm)
    go_wp2_with fail
    go_ret3
    rw [HE.out]
    exact ⟨none, 0, rfl, HNIL.out⟩
  case neg =>
  have HE := Lib.hid (G2.out (by omega))
  obtain ⟨mn, rfl⟩ : ∃ mn : Nat, m = (mn : Int) := ⟨m.toNat, by omega⟩
  rw [Int.toNat_natCast] at HE
  have hmn : mn ≤ 100 := by omega
  have ha1 : a1 ≤ n := hin.2.2.1
  clear hin HSTAY HGO G1 G2
  go_wp2_with fail
  go_loopw [10, 12, 13] (fun av o kv wr => ∃ j : Nat, kv = .int .i64 j ∧ j ≤ mn ∧ av = .int .i64 ((rsMany (rsNum bs) j ⟨a1, 0⟩).1.at_ : Nat) ∧ (rsMany (rsNum bs) j ⟨a1, 0⟩).1.no = 0 ∧ (rsMany (rsNum bs) j ⟨a1, 0⟩).1.at_ ≤ n ∧ Hp w wr [AInt o (rsMany (rsNum bs) j ⟨a1, 0⟩).2]) (fun _ _ kv _ => mn - (intOf kv).toNat)
  case atStart => exact ⟨0, rfl, Nat.zero_le _, rfl, rfl, ha1, HNIL.out⟩
  case round =>
    obtain ⟨j, rfl, hj, rfl, hno, hat2, hQ⟩ := hrel
    have HQ := Lib.hid hQ
    have HNO := Lib.hid (fun h k => rsMany_no (bs := bs) (j := j + 1) (s := ⟨a1, 0⟩) h k)
    have hsucc := rsMany_succ (rsNum bs) j ⟨a1, 0⟩
    have hlen := rsMany_len (rsNum bs) j ⟨a1, 0⟩
    rw [hsucc] at HNO
    obtain ⟨⟨⟨a2, no2⟩, l2⟩, hM⟩ : ∃ r, r = rsMany (rsNum bs) j ⟨a1, 0⟩ := ⟨_, rfl⟩
    rw [← hM] at HQ HNO hsucc hlen hno hat2 ⊢
    dsimp only at HNO HQ hsucc hlen hno hat2 ⊢
    subst hno
    have HM := Lib.hid hM
    have HLEN := Lib.hid hlen
    have HSUC := Lib.hid hsucc
    clear hQ hM hsucc hlen
    by_cases hjm : j < mn
    case neg =>
      have hj1 : ¬ (j : Int) < (mn : Int) := by omega
      have hjm' : j = mn := by omega
      subst hjm'
      have HE2 := Lib.hid HE.out
      rw [← HM.out] at HE2
      unfold rsBack at HE2
      dsimp only at HE2
      rw [if_pos rfl, if_pos rfl] at HE2
      obtain ⟨Ao, co, hso⟩ := Kd.R_slice HQ.out.head
      rw [HLEN.out] at hso
      subst hso
      go_wp2_with fail
      go_ret3
      rw [HE2.out]
      dsimp only
      rw [HLEN.out]
      exact ⟨Ao, co, rfl, HQ.out⟩
    case pos =>
    have hj1 : (j : Int) < (mn : Int) := by omega
    have hrd := refRead_any (HA.out.below HQ.out.belowW) hn HB.out a2 hat2
    have hin := rsNum_in HB.out (s := ⟨a2, 0⟩) (by rw [← HN.out]; exact hat2)
    rw [refRd_rs] at hrd
    obtain ⟨⟨⟨a3, no3⟩, x⟩, hr⟩ : ∃ r, r = rsNum bs ⟨a2, 0⟩ := ⟨_, rfl⟩
    rw [← hr] at hrd hin HSUC HNO
    dsimp only at hrd hin HSUC HNO
    have HRD2 := Lib.hid hrd
    rw [← HN.out] at hin
    clear hr hrd
    go_wp2_with fail
    refine Calls.mono HRD2.out ?_
    rintro e w3 ⟨rfl, rfl⟩
    by_cases h3 : no3 = 0
    case neg =>
      have hfin : (rsMany (rsNum bs) mn ⟨a1, 0⟩).1 = ⟨a3, no3⟩ := by
        have := HNO.out h3 (mn - (j + 1))
        rwa [show j + 1 + (mn - (j + 1)) = mn by omega] at this
      have HE2 := Lib.hid HE.out
      rw [hfin] at HE2
      unfold rsBack at HE2
      dsimp only at HE2
      rw [if_neg h3, if_neg h3] at HE2
      have hne : (no3 != 0) = true := by simpa using h3
      have HP3 := Lib.hid (HQ.out.tail.nilRow (Kd.int .i64) 3)
      clear h3 hfin hin
      go_wp2_with fail
      go_ret3
      rw [HE2.out]
      exact ⟨none, 0, rfl, HP3.out⟩
    case pos =>
    subst h3
    have ha3 : a3 ≤ n := hin.2.2.1
    clear hin
    obtain ⟨okr, hR1, hR2, hR3⟩ := HQ.out.appended
    have HR1 := Lib.hid hR1
    have HR2 := Lib.hid hR2
    have HR3 := Lib.hid hR3
    clear hR1 hR2 hR3
    go_wp2_with (at_builtin; refine Kd.R_append (Kd.int .i64) (w0 := wr) 0 rfl (.tmp 48) (.tmp 50) 53 3 (.int .i64 0) 8 rfl Tryd.underlying53 info_int8 rfl (by decide) (by omega) u12 l2 x [.int .i64 x] okr (fun _ => False) rfl rfl rfl (fun _ hk => hk.elim) HR2.out HR1.out (Below.refl _ _) (Nat.zero_le _) (by rw [HLEN.out]; omega) ?_; intro v5 w5 hR5 hB5 hg5 _)
    have HP5 := Lib.hid (HR3.out _ _ _ hR5 hg5)
    clear hR5 hB5 hg5
    refine ⟨⟨j + 1, by simp, by omega, by rw [HSUC.out], by rw [HSUC.out], by rw [HSUC.out]; exact ha3, by rw [HSUC.out]; exact HP5.out⟩, ?_⟩
    simp [intOf]
    omega
end Go.Proofs.YtidjapjidihbpaaDoor
set_option linter.unusedVariables false
set_option linter.unusedSimpArgs false
namespace Go.Proofs.YtidjapjidihbpaaDoor
open Go.RowKit Go.Proofs.YtidjapjidihbpaaDoorW.PrintWords
/-- A reader's cells. -/
def rrCells (A : Option Addr) (n c : Nat) (s : Rs) : Array Value := #[.slice A n c, .int .i64 s.at_, .int .i64 s.no]
theorem info_reader : (Tryd.prog.info? 102).map (·.size) = some 3 := by kernel_rfl
theorem rsText_free {bs : List Int} {most : Int} {s : Rs} (h : s.no = 0) : rsText bs most ⟨s.at_, 0⟩ = rsText bs most s := by
  obtain ⟨a, no⟩ := s
  cases h
  rfl
theorem rsText_stuck' {bs : List Int} {most : Int} {s : Rs} (h : s.no ≠ 0) : rsText bs most s = (s, ⟨#[]⟩) := by unfold rsText; rw [if_neg h]
theorem rsNum_stuck' {bs : List Int} {s : Rs} (h : s.no ≠ 0) : rsNum bs s = (s, 0) := by unfold rsNum; rw [if_neg h]
set_option maxHeartbeats 1600000 in
set_option maxRecDepth 100000 in
theorem refnum_any {A : Option Addr} {n c : Nat} {bs : List Int} {w : World} (hA : Rd w A n c bs) (hn : n ≤ 1000000) (hb : ByOk bs) (s : Rs) (hat : s.at_ ≤ n) :
    Calls Tryd.prog 54 #[.agg (rrCells A n c s)] w fun e w' => e = .returned (.tuple #[.agg (rrCells A n c (rsNum bs s).1), .int .i64 (rsNum bs s).2]) ∧ Below w.heap.size w w' := by
  have HA := Lib.hid hA
  have HB := Lib.hid hb
  have HSTAY := Lib.hid (rsNum_stuck' (bs := bs) (s := s))
  have HFREE := Lib.hid (rsNum_free (bs := bs) (s := s))
  obtain ⟨R, hR⟩ : ∃ R, R = rsNum bs s := ⟨_, rfl⟩
  rw [← hR] at HSTAY HFREE ⊢
  clear hA hb hR
  have hz1 : (w.alloc (.cells (rrCells A n c s) 102)).heap.size = w.heap.size + 1 := by simp
  have hp0 := ((Hp.nil w).alloc (.cells (rrCells A n c s) 102)).alloc (.cells #[.slice none 0 0, .int .i64 0, .int .i64 0] 102)
  rw [hz1] at hp0
  unfold rrCells at hp0 ⊢
  obtain ⟨rb, hrb⟩ : ∃ rb, rb = w.heap.size + 1 := ⟨_, rfl⟩
  rw [← hrb] at hp0
  have HP0 := Lib.hid hp0
  obtain ⟨x0, x1, x2, xf⟩ := blk3c (by exact hp0.blk1)
  obtain ⟨y0, y1, y2, yf⟩ := blk3c (by exact hp0.blk0)
  clear hp0 hz1
  go_enter Tryd.func54, Tryd.ntmps54
  go_upto_region 1 with (fail)
  rw [← hrb]
  change Code.wp _ _ _ _ ((w.alloc (.cells #[.slice A n c, .int .i64 s.at_, .int .i64 s.no] 102)).alloc (.cells #[.slice none 0 0, .int .i64 0, .int .i64 0] 102))
  generalize (w.alloc (.cells #[.slice A n c, .int .i64 s.at_, .int .i64 s.no] 102)).alloc (.cells #[.slice none 0 0, .int .i64 0, .int .i64 0] 102) = W0 at *
  clear hrb
  by_cases h0 : s.no = 0
  case neg =>
    have HE := Lib.hid (HSTAY.out h0)
    have hne : (s.no != 0) = true := by simpa using h0
    have HP1 := Lib.hid (HP0.out.setRowBlk #[.slice A n c, .int .i64 s.at_, .int .i64 s.no])
    clear h0
    go_wp2_with ((with_reducible refine gate_store (t := 102) (p := 2) (v := .tmp 10) rfl ?_); refine wpList_store_row rfl 102 (.tmp 2) (.tmp 10) rfl rb #[.slice A n c, .int .i64 s.at_, .int .i64 s.no] rfl rfl 102 #[.slice none 0 0, .int .i64 0, .int .i64 0] HP0.out.blk0 info_reader rfl (by simp [Value.oneCell']) ?_)
    refine bodyPost_ret (results_cell_slot rfl _ _ rb 102 #[.slice A n c, .int .i64 s.at_, .int .i64 s.no] (0, 0) _ rfl HP1.out.blk0 Tryd.underlying102 rfl info_reader _ rfl) rfl ?_
    rw [HE.out]
    exact ⟨rfl, HP1.out.belowW⟩
  case pos =>
    have hne : (s.no != 0) = false := by simpa using h0
    have HE := Lib.hid (HFREE.out h0)
    have hrd := refRead_any (HA.out.below HP0.out.belowW) hn HB.out s.at_ hat
    rw [refRd_rs] at hrd; dsimp only at hrd
    have HRD := Lib.hid hrd
    clear hrd h0
    rw [HE.out] at HRD
    obtain ⟨⟨a1, n1⟩, v1⟩ := R
    dsimp only at HRD ⊢
    clear HSTAY HFREE HE
    have HP1 := Lib.hid (((HP0.out.swap.setBlk 1 (.int .i64 (a1 : Int))).setBlk 2 (.int .i64 n1)).swap)
    simp only [List.setIfInBounds_toArray, List.set_cons_zero, List.set_cons_succ] at HP1
    have HP2 := Lib.hid (HP1.out.setRowBlk #[.slice A n c, .int .i64 (a1 : Int), .int .i64 n1])
    go_wp2_with (first | (go_at_call 78; refine Calls.mono HRD.out ?_; rintro e w1 ⟨rfl, rfl⟩) | ((with_reducible refine gate_store (t := 102) (p := 2) (v := .tmp 24) rfl ?_); refine wpList_store_row rfl 102 (.tmp 2) (.tmp 24) rfl rb #[.slice A n c, .int .i64 a1, .int .i64 n1] rfl rfl 102 #[.slice none 0 0, .int .i64 0, .int .i64 0] HP1.out.blk0 info_reader rfl (by simp [Value.oneCell']) ?_))
    refine bodyPost_ret (results_cell_slot rfl _ _ rb 102 #[.slice A n c, .int .i64 a1, .int .i64 n1] (0, 0) _ rfl HP2.out.blk0 Tryd.underlying102 rfl info_reader _ rfl) rfl ?_
    exact ⟨rfl, HP2.out.belowW⟩
set_option maxHeartbeats 1600000 in
set_option maxRecDepth 100000 in
theorem reftext_any {A : Option Addr} {n c : Nat} {bs : List Int} {w : World} (hA : Rd w A n c bs) (hn : n ≤ 1000000) (hb : ByOk bs) (s : Rs) (hat : s.at_ ≤ n) :
    Calls Tryd.prog 55 #[.agg (rrCells A n c s)] w fun e w' => e = .returned (.tuple #[.agg (rrCells A n c (rsText bs 256 s).1), .string (rsText bs 256 s).2]) ∧ Below w.heap.size w w' := by
  have HA := Lib.hid hA
  have HB := Lib.hid hb
  have HSTAY := Lib.hid (rsText_stuck' (bs := bs) (s := s) (most := 256))
  have HFREE := Lib.hid (rsText_free (bs := bs) (s := s) (most := 256))
  obtain ⟨R, hR⟩ : ∃ R, R = rsText bs 256 s := ⟨_, rfl⟩
  rw [← hR] at HSTAY HFREE ⊢
  clear hA hb hR
  have hz1 : (w.alloc (.cells (rrCells A n c s) 102)).heap.size = w.heap.size + 1 := by simp
  have hp0 := ((Hp.nil w).alloc (.cells (rrCells A n c s) 102)).alloc (.cells #[.slice none 0 0, .int .i64 0, .int .i64 0] 102)
  rw [hz1] at hp0
  unfold rrCells at hp0 ⊢
  obtain ⟨rb, hrb⟩ : ∃ rb, rb = w.heap.size + 1 := ⟨_, rfl⟩
  rw [← hrb] at hp0
  have HP0 := Lib.hid hp0
  obtain ⟨x0, x1, x2, xf⟩ := blk3c (by exact hp0.blk1)
  obtain ⟨y0, y1, y2, yf⟩ := blk3c (by exact hp0.blk0)
  clear hp0 hz1
  go_enter Tryd.func55, Tryd.ntmps55
  go_upto_region 1 with (fail)
  rw [← hrb]
  change Code.wp _ _ _ _ ((w.alloc (.cells #[.slice A n c, .int .i64 s.at_, .int .i64 s.no] 102)).alloc (.cells #[.slice none 0 0, .int .i64 0, .int .i64 0] 102))
  generalize (w.alloc (.cells #[.slice A n c, .int .i64 s.at_, .int .i64 s.no] 102)).alloc (.cells #[.slice none 0 0, .int .i64 0, .int .i64 0] 102) = W0 at *
  clear hrb
  by_cases h0 : s.no = 0
  case neg =>
    have HE := Lib.hid (HSTAY.out h0)
    have hne : (s.no != 0) = true := by simpa using h0
    have HP1 := Lib.hid (HP0.out.setRowBlk #[.slice A n c, .int .i64 s.at_, .int .i64 s.no])
    clear h0
    go_wp2_with ((with_reducible refine gate_store (t := 102) (p := 2) (v := .tmp 10) rfl ?_); refine wpList_store_row rfl 102 (.tmp 2) (.tmp 10) rfl rb #[.slice A n c, .int .i64 s.at_, .int .i64 s.no] rfl rfl 102 #[.slice none 0 0, .int .i64 0, .int .i64 0] HP0.out.blk0 info_reader rfl (by simp [Value.oneCell']) ?_)
    refine bodyPost_ret (results_cell_slot rfl _ _ rb 102 #[.slice A n c, .int .i64 s.at_, .int .i64 s.no] (0, 0) _ rfl HP1.out.blk0 Tryd.underlying102 rfl info_reader _ rfl) rfl ?_
    rw [HE.out]
    exact ⟨rfl, HP1.out.belowW⟩
  case pos =>
    have hne : (s.no != 0) = false := by simpa using h0
    have HE := Lib.hid (HFREE.out h0)
    have hrd := refReadText_any (HA.out.below HP0.out.belowW) hn HB.out s.at_ hat 256
    skip
    have HRD := Lib.hid hrd
    clear hrd h0
    rw [HE.out] at HRD
    obtain ⟨⟨a1, n1⟩, v1⟩ := R
    dsimp only at HRD ⊢
    clear HSTAY HFREE HE
    have HP1 := Lib.hid (((HP0.out.swap.setBlk 1 (.int .i64 (a1 : Int))).setBlk 2 (.int .i64 n1)).swap)
    simp only [List.setIfInBounds_toArray, List.set_cons_zero, List.set_cons_succ] at HP1
    have HP2 := Lib.hid (HP1.out.setRowBlk #[.slice A n c, .int .i64 (a1 : Int), .int .i64 n1])
    go_wp2_with (first | (go_at_call 79; refine Calls.mono HRD.out ?_; rintro e w1 ⟨rfl, rfl⟩) | ((with_reducible refine gate_store (t := 102) (p := 2) (v := .tmp 24) rfl ?_); refine wpList_store_row rfl 102 (.tmp 2) (.tmp 24) rfl rb #[.slice A n c, .int .i64 a1, .int .i64 n1] rfl rfl 102 #[.slice none 0 0, .int .i64 0, .int .i64 0] HP1.out.blk0 info_reader rfl (by simp [Value.oneCell']) ?_))
    refine bodyPost_ret (results_cell_slot rfl _ _ rb 102 #[.slice A n c, .int .i64 a1, .int .i64 n1] (0, 0) _ rfl HP2.out.blk0 Tryd.underlying102 rfl info_reader _ rfl) rfl ?_
    exact ⟨rfl, HP2.out.belowW⟩
set_option maxHeartbeats 1600000 in
set_option maxRecDepth 100000 in
theorem refdone_any {A : Option Addr} {n c : Nat} {bs : List Int} {w : World} (hn : n = bs.length) (s : Rs) :
    Calls Tryd.prog 56 #[.agg (rrCells A n c s)] w fun e w' => e = .returned (.int .i64 (rsDone bs s)) ∧ Below w.heap.size w w' := by
  obtain ⟨R, hR⟩ : ∃ R, R = rsDone bs s := ⟨_, rfl⟩
  have HG := Lib.hid (fun h0 h1 => rsDone_go (bs := bs) (s := s) h0 h1)
  have HS := Lib.hid (fun h => rsDone_stay (bs := bs) (s := s) h)
  rw [← hR, ← hn] at HG HS
  rw [← hR]
  clear hR hn
  have HP0 := Lib.hid ((Hp.nil w).alloc (.cells (rrCells A n c s) 102))
  unfold rrCells at HP0 ⊢
  obtain ⟨x0, x1, x2, xf⟩ := blk3c (by exact HP0.out.blk0)
  by_cases h0 : s.no = 0
  case neg =>
    have h1 : (s.no == 0) = false := by simpa using h0
    have HE := Lib.hid (HS.out (.inl h0))
    clear h0
    go_enter Tryd.func56, Tryd.ntmps56
    go_wp2_with fail
    go_ret
    rw [HE.out]
    exact ⟨rfl, HP0.out.belowW⟩
  case pos =>
    have h1 : (s.no == 0) = true := by simpa using h0
    by_cases h2 : s.at_ < n
    case pos =>
      have h3 : (s.at_ : Int) < (n : Int) := by omega
      have HE := Lib.hid (HG.out h0 h2)
      clear h0
      go_enter Tryd.func56, Tryd.ntmps56
      go_wp2_with fail
      go_ret
      rw [HE.out]
      exact ⟨rfl, HP0.out.belowW⟩
    case neg =>
      have h3 : ¬ (s.at_ : Int) < (n : Int) := by omega
      have HE := Lib.hid (HS.out (.inr (by omega)))
      have H0 := Lib.hid h0
      clear h0
      go_enter Tryd.func56, Tryd.ntmps56
      go_wp2_with fail
      go_ret
      rw [HE.out]
      exact ⟨rfl, HP0.out.belowW⟩
end Go.Proofs.YtidjapjidihbpaaDoor
set_option linter.unusedVariables false
set_option linter.unusedSimpArgs false
namespace Go.Proofs.YtidjapjidihbpaaDoor
open Go.RowKit Go.Proofs.YtidjapjidihbpaaDoorW.PrintWords
theorem refmost_any (w : World) : Calls Tryd.prog 35 #[] w fun e w' => e = .returned (.int .i64 4611686018427387904) ∧ w' = w := by
  go_enter Tryd.func35, Tryd.ntmps35
  go_wp2_with fail
  go_ret
  exact ⟨rfl, rfl⟩
/-- A command's numbers, as the document lists them. -/
def refNumsOf (c : Cm) (n : Int) : List Int := c.nums (n + 1) ++ [encFifo c.a]
/-- Texts in a block of their own. -/
theorem Hp.textBlk {w0 w : World} {Ps : List Asn} {g : Nat} {xs : List ByteArray} {cs : Array Value} (hcs : cs.toList = xs.map Value.string) (hm : xs.length ≤ 1000000) (h : Hp w0 w (ABlk g (.cells cs 9 (0, 0)) :: Ps)) : Hp w0 w (ARow Kd.string 9 (.slice (some ⟨g, 0, none⟩) xs.length xs.length) xs :: Ps) := by
  obtain ⟨S1, h1, h2⟩ := h.use1
  have hl : cs.size = xs.length := by rw [← Array.length_toList, hcs, List.length_map]
  refine h2 w (ARow Kd.string 9 (.slice (some ⟨g, 0, none⟩) xs.length xs.length) xs) (Keep.refl _ _) (Kd.R_of_own ⟨by simp [encs], .inr ⟨g, xs.length, cs, rfl, Nat.zero_le _, h1.2, Nat.le_refl _, by simp only [maxLen]; omega, by omega, by rw [hcs]; simp only [encs, Nat.mul_one]; exact List.take_of_length_le (by simp)⟩⟩ (fun b hb => ?_))
  have : g = b := by simpa [Value.ownBlock] using hb
  exact .inl (this ▸ h1.1)
theorem hp_alloc1 {w : World} {o1 : Obj} {Ps : List Asn} (h : Hp w (w.alloc o1) Ps) (o : Obj) : Hp w ((w.alloc o1).alloc o) [ABlk (w.heap.size + 1) o] := by
  have h1 := (h.alloc o).only1
  have hz : (w.alloc o1).heap.size = w.heap.size + 1 := by simp
  rwa [hz] at h1
set_option maxHeartbeats 1600000 in
set_option maxRecDepth 100000 in
theorem refnumbers_any (c : Cm) (A : Option Addr) (nb cb : Nat) (n : Int) (hn : -1 ≤ n ∧ n < 4611686018427387904) (w : World) :
    Calls Tryd.prog 36 #[.agg (c.cells (.slice A nb cb) n)] w fun e w' => ∃ g, e = .returned (.slice (some ⟨g, 0, none⟩) 11 11) ∧ Hp w w' [ABlk g (.cells ((refNumsOf c n).map (Value.int .i64)).toArray 3 (0, 0))] := by
  have HP0 := Lib.hid ((Hp.nil w).alloc (.cells (c.cells (.slice A nb cb) n) 37))
  have hre : (refNumsOf c n).map (Value.int .i64) = [.int .i64 c.client, .int .i64 c.req, .int .i64 c.kind, .int .i64 (n + 1), .int .i64 c.m, .int .i64 c.a.vis, .int .i64 c.a.ret, .int .i64 c.a.del, .int .i64 c.a.win, .int .i64 c.a.max, .int .i64 (encFifo c.a)] := rfl
  rw [hre]
  have hfi : encFifo c.a = if c.a.fifo then 1 else 0 := rfl
  have hw : IntKind.i64.wrap (n + 1) = n + 1 := by rw [IntKind.wrap_i64]; omega
  unfold Cm.cells at HP0 ⊢
  have g0 : (w.alloc (.cells #[.int .i64 c.client, .int .i64 c.req, .int .i64 c.kind, .string c.queue, .int .i64 c.a.vis, .int .i64 c.a.ret, .int .i64 c.a.del, .int .i64 c.a.win, .int .i64 c.a.max, .string c.a.dead, .bool c.a.fifo, .string c.body, .string c.group, .string c.key, .string c.receipt, .slice A nb cb, .int .i64 n, .int .i64 c.m] 37)).cell? ⟨w.heap.size, 0, none⟩ = some (.int .i64 c.client) := blk_cell HP0.out.blk0 0
  have g1 : (w.alloc (.cells #[.int .i64 c.client, .int .i64 c.req, .int .i64 c.kind, .string c.queue, .int .i64 c.a.vis, .int .i64 c.a.ret, .int .i64 c.a.del, .int .i64 c.a.win, .int .i64 c.a.max, .string c.a.dead, .bool c.a.fifo, .string c.body, .string c.group, .string c.key, .string c.receipt, .slice A nb cb, .int .i64 n, .int .i64 c.m] 37)).cell? ⟨w.heap.size, 1, none⟩ = some (.int .i64 c.req) := blk_cell HP0.out.blk0 1
  have g2 : (w.alloc (.cells #[.int .i64 c.client, .int .i64 c.req, .int .i64 c.kind, .string c.queue, .int .i64 c.a.vis, .int .i64 c.a.ret, .int .i64 c.a.del, .int .i64 c.a.win, .int .i64 c.a.max, .string c.a.dead, .bool c.a.fifo, .string c.body, .string c.group, .string c.key, .string c.receipt, .slice A nb cb, .int .i64 n, .int .i64 c.m] 37)).cell? ⟨w.heap.size, 2, none⟩ = some (.int .i64 c.kind) := blk_cell HP0.out.blk0 2
  have g4 : (w.alloc (.cells #[.int .i64 c.client, .int .i64 c.req, .int .i64 c.kind, .string c.queue, .int .i64 c.a.vis, .int .i64 c.a.ret, .int .i64 c.a.del, .int .i64 c.a.win, .int .i64 c.a.max, .string c.a.dead, .bool c.a.fifo, .string c.body, .string c.group, .string c.key, .string c.receipt, .slice A nb cb, .int .i64 n, .int .i64 c.m] 37)).cell? ⟨w.heap.size, 4, none⟩ = some (.int .i64 c.a.vis) := blk_cell HP0.out.blk0 4
  have g5 : (w.alloc (.cells #[.int .i64 c.client, .int .i64 c.req, .int .i64 c.kind, .string c.queue, .int .i64 c.a.vis, .int .i64 c.a.ret, .int .i64 c.a.del, .int .i64 c.a.win, .int .i64 c.a.max, .string c.a.dead, .bool c.a.fifo, .string c.body, .string c.group, .string c.key, .string c.receipt, .slice A nb cb, .int .i64 n, .int .i64 c.m] 37)).cell? ⟨w.heap.size, 5, none⟩ = some (.int .i64 c.a.ret) := blk_cell HP0.out.blk0 5
  have g6 : (w.alloc (.cells #[.int .i64 c.client, .int .i64 c.req, .int .i64 c.kind, .string c.queue, .int .i64 c.a.vis, .int .i64 c.a.ret, .int .i64 c.a.del, .int .i64 c.a.win, .int .i64 c.a.max, .string c.a.dead, .bool c.a.fifo, .string c.body, .string c.group, .string c.key, .string c.receipt, .slice A nb cb, .int .i64 n, .int .i64 c.m] 37)).cell? ⟨w.heap.size, 6, none⟩ = some (.int .i64 c.a.del) := blk_cell HP0.out.blk0 6
  have g7 : (w.alloc (.cells #[.int .i64 c.client, .int .i64 c.req, .int .i64 c.kind, .string c.queue, .int .i64 c.a.vis, .int .i64 c.a.ret, .int .i64 c.a.del, .int .i64 c.a.win, .int .i64 c.a.max, .string c.a.dead, .bool c.a.fifo, .string c.body, .string c.group, .string c.key, .string c.receipt, .slice A nb cb, .int .i64 n, .int .i64 c.m] 37)).cell? ⟨w.heap.size, 7, none⟩ = some (.int .i64 c.a.win) := blk_cell HP0.out.blk0 7
  have g8 : (w.alloc (.cells #[.int .i64 c.client, .int .i64 c.req, .int .i64 c.kind, .string c.queue, .int .i64 c.a.vis, .int .i64 c.a.ret, .int .i64 c.a.del, .int .i64 c.a.win, .int .i64 c.a.max, .string c.a.dead, .bool c.a.fifo, .string c.body, .string c.group, .string c.key, .string c.receipt, .slice A nb cb, .int .i64 n, .int .i64 c.m] 37)).cell? ⟨w.heap.size, 8, none⟩ = some (.int .i64 c.a.max) := blk_cell HP0.out.blk0 8
  have g10 : (w.alloc (.cells #[.int .i64 c.client, .int .i64 c.req, .int .i64 c.kind, .string c.queue, .int .i64 c.a.vis, .int .i64 c.a.ret, .int .i64 c.a.del, .int .i64 c.a.win, .int .i64 c.a.max, .string c.a.dead, .bool c.a.fifo, .string c.body, .string c.group, .string c.key, .string c.receipt, .slice A nb cb, .int .i64 n, .int .i64 c.m] 37)).cell? ⟨w.heap.size, 10, none⟩ = some (.bool c.a.fifo) := blk_cell HP0.out.blk0 10
  have g16 : (w.alloc (.cells #[.int .i64 c.client, .int .i64 c.req, .int .i64 c.kind, .string c.queue, .int .i64 c.a.vis, .int .i64 c.a.ret, .int .i64 c.a.del, .int .i64 c.a.win, .int .i64 c.a.max, .string c.a.dead, .bool c.a.fifo, .string c.body, .string c.group, .string c.key, .string c.receipt, .slice A nb cb, .int .i64 n, .int .i64 c.m] 37)).cell? ⟨w.heap.size, 16, none⟩ = some (.int .i64 n) := blk_cell HP0.out.blk0 16
  have g17 : (w.alloc (.cells #[.int .i64 c.client, .int .i64 c.req, .int .i64 c.kind, .string c.queue, .int .i64 c.a.vis, .int .i64 c.a.ret, .int .i64 c.a.del, .int .i64 c.a.win, .int .i64 c.a.max, .string c.a.dead, .bool c.a.fifo, .string c.body, .string c.group, .string c.key, .string c.receipt, .slice A nb cb, .int .i64 n, .int .i64 c.m] 37)).cell? ⟨w.heap.size, 17, none⟩ = some (.int .i64 c.m) := blk_cell HP0.out.blk0 17
  have gf : ∀ i, (w.alloc (.cells #[.int .i64 c.client, .int .i64 c.req, .int .i64 c.kind, .string c.queue, .int .i64 c.a.vis, .int .i64 c.a.ret, .int .i64 c.a.del, .int .i64 c.a.win, .int .i64 c.a.max, .string c.a.dead, .bool c.a.fifo, .string c.body, .string c.group, .string c.key, .string c.receipt, .slice A nb cb, .int .i64 n, .int .i64 c.m] 37)).frozen? ⟨w.heap.size, i, none⟩ = false := fun i => blk_frozen HP0.out.blk0 _
  rw [hfi]
  clear hre hfi
  generalize c.a.fifo = fb at *
  cases fb
  all_goals
    go_enter Tryd.func36, Tryd.ntmps36
    go_wp2_with fail
    go_ret
    exact ⟨_, rfl, hp_alloc1 HP0.out _⟩
set_option maxHeartbeats 1600000 in
set_option maxRecDepth 100000 in
theorem reftexts_any (c : Cm) (A : Option Addr) (nb cb : Nat) (n : Int) (w : World) :
    Calls Tryd.prog 37 #[.agg (c.cells (.slice A nb cb) n)] w fun e w' => ∃ g, e = .returned (.slice (some ⟨g, 0, none⟩) 6 6) ∧ Hp w w' [ABlk g (.cells (c.texts.map Value.string).toArray 9 (0, 0))] := by
  have HP0 := Lib.hid ((Hp.nil w).alloc (.cells (c.cells (.slice A nb cb) n) 37))
  unfold Cm.texts
  unfold Cm.cells at HP0 ⊢
  have g3 : (w.alloc (.cells #[.int .i64 c.client, .int .i64 c.req, .int .i64 c.kind, .string c.queue, .int .i64 c.a.vis, .int .i64 c.a.ret, .int .i64 c.a.del, .int .i64 c.a.win, .int .i64 c.a.max, .string c.a.dead, .bool c.a.fifo, .string c.body, .string c.group, .string c.key, .string c.receipt, .slice A nb cb, .int .i64 n, .int .i64 c.m] 37)).cell? ⟨w.heap.size, 3, none⟩ = some (.string c.queue) := blk_cell HP0.out.blk0 3
  have g9 : (w.alloc (.cells #[.int .i64 c.client, .int .i64 c.req, .int .i64 c.kind, .string c.queue, .int .i64 c.a.vis, .int .i64 c.a.ret, .int .i64 c.a.del, .int .i64 c.a.win, .int .i64 c.a.max, .string c.a.dead, .bool c.a.fifo, .string c.body, .string c.group, .string c.key, .string c.receipt, .slice A nb cb, .int .i64 n, .int .i64 c.m] 37)).cell? ⟨w.heap.size, 9, none⟩ = some (.string c.a.dead) := blk_cell HP0.out.blk0 9
  have g11 : (w.alloc (.cells #[.int .i64 c.client, .int .i64 c.req, .int .i64 c.kind, .string c.queue, .int .i64 c.a.vis, .int .i64 c.a.ret, .int .i64 c.a.del, .int .i64 c.a.win, .int .i64 c.a.max, .string c.a.dead, .bool c.a.fifo, .string c.body, .string c.group, .string c.key, .string c.receipt, .slice A nb cb, .int .i64 n, .int .i64 c.m] 37)).cell? ⟨w.heap.size, 11, none⟩ = some (.string c.body) := blk_cell HP0.out.blk0 11
  have g12 : (w.alloc (.cells #[.int .i64 c.client, .int .i64 c.req, .int .i64 c.kind, .string c.queue, .int .i64 c.a.vis, .int .i64 c.a.ret, .int .i64 c.a.del, .int .i64 c.a.win, .int .i64 c.a.max, .string c.a.dead, .bool c.a.fifo, .string c.body, .string c.group, .string c.key, .string c.receipt, .slice A nb cb, .int .i64 n, .int .i64 c.m] 37)).cell? ⟨w.heap.size, 12, none⟩ = some (.string c.group) := blk_cell HP0.out.blk0 12
  have g13 : (w.alloc (.cells #[.int .i64 c.client, .int .i64 c.req, .int .i64 c.kind, .string c.queue, .int .i64 c.a.vis, .int .i64 c.a.ret, .int .i64 c.a.del, .int .i64 c.a.win, .int .i64 c.a.max, .string c.a.dead, .bool c.a.fifo, .string c.body, .string c.group, .string c.key, .string c.receipt, .slice A nb cb, .int .i64 n, .int .i64 c.m] 37)).cell? ⟨w.heap.size, 13, none⟩ = some (.string c.key) := blk_cell HP0.out.blk0 13
  have g14 : (w.alloc (.cells #[.int .i64 c.client, .int .i64 c.req, .int .i64 c.kind, .string c.queue, .int .i64 c.a.vis, .int .i64 c.a.ret, .int .i64 c.a.del, .int .i64 c.a.win, .int .i64 c.a.max, .string c.a.dead, .bool c.a.fifo, .string c.body, .string c.group, .string c.key, .string c.receipt, .slice A nb cb, .int .i64 n, .int .i64 c.m] 37)).cell? ⟨w.heap.size, 14, none⟩ = some (.string c.receipt) := blk_cell HP0.out.blk0 14
  have gf : ∀ i, (w.alloc (.cells #[.int .i64 c.client, .int .i64 c.req, .int .i64 c.kind, .string c.queue, .int .i64 c.a.vis, .int .i64 c.a.ret, .int .i64 c.a.del, .int .i64 c.a.win, .int .i64 c.a.max, .string c.a.dead, .bool c.a.fifo, .string c.body, .string c.group, .string c.key, .string c.receipt, .slice A nb cb, .int .i64 n, .int .i64 c.m] 37)).frozen? ⟨w.heap.size, i, none⟩ = false := fun i => blk_frozen HP0.out.blk0 _
  go_enter Tryd.func37, Tryd.ntmps37
  go_wp2_with fail
  go_ret
  exact ⟨_, rfl, hp_alloc1 HP0.out _⟩
end Go.Proofs.YtidjapjidihbpaaDoor
set_option linter.unusedVariables false
namespace Go.Proofs.YtidjapjidihbpaaDoor
open Go.RowKit Go.Proofs.YtidjapjidihbpaaDoorW.PrintWords Go.Deep
def KQA := Kd.pair (Kd.int .i64) (Kd.pair (Kd.int .i64) (Kd.pair (Kd.int .i64) (Kd.pair (Kd.int .i64) (Kd.pair (Kd.int .i64) (Kd.pair Kd.string (Kd.bool))))))
def KCmd := Kd.pair (Kd.int .i64) (Kd.pair (Kd.int .i64) (Kd.pair (Kd.int .i64) (Kd.pair Kd.string (Kd.pair KQA (Kd.pair Kd.string (Kd.pair Kd.string (Kd.pair Kd.string (Kd.pair Kd.string (Kd.pair (Kd.slice 9 Kd.string) (Kd.pair (Kd.int .i64) ((Kd.int .i64))))))))))))
theorem opens_ok {α : Type} {P : Program} {t : TypeId} {d : Kd α} {ok : α → Prop} (h : Opens P t d ok) : Opens P t d (fun _ => True) := ⟨h.cells, fun hx => by obtain ⟨a, h1, _⟩ := h.get hx; exact ⟨a, h1, trivial⟩⟩
set_option maxRecDepth 100000 in
theorem opens_qa : Opens Tryd.prog 23 KQA (fun _ => True) :=
  opens_ok (opens_struct Tryd.underlying23 (by kernel_rfl) (Fields.cons (opens_int (k := .i64) Tryd.underlying3 (by kernel_rfl)) rfl (Fields.cons (opens_int (k := .i64) Tryd.underlying3 (by kernel_rfl)) rfl (Fields.cons (opens_int (k := .i64) Tryd.underlying3 (by kernel_rfl)) rfl (Fields.cons (opens_int (k := .i64) Tryd.underlying3 (by kernel_rfl)) rfl (Fields.cons (opens_int (k := .i64) Tryd.underlying3 (by kernel_rfl)) rfl (Fields.cons (opens_string Tryd.underlying9 (by kernel_rfl)) rfl (Fields.last (opens_bool Tryd.underlying4 (by kernel_rfl)) rfl) rfl) rfl) rfl) rfl) rfl) rfl))
set_option maxRecDepth 100000 in
theorem opens_cmd : Opens Tryd.prog 26 KCmd (fun _ => True) :=
  opens_ok (opens_struct Tryd.underlying26 (by kernel_rfl) (Fields.cons (opens_int (k := .i64) Tryd.underlying3 (by kernel_rfl)) rfl (Fields.cons (opens_int (k := .i64) Tryd.underlying3 (by kernel_rfl)) rfl (Fields.cons (opens_int (k := .i64) Tryd.underlying3 (by kernel_rfl)) rfl (Fields.cons (opens_string Tryd.underlying9 (by kernel_rfl)) rfl (Fields.cons opens_qa rfl (Fields.cons (opens_string Tryd.underlying9 (by kernel_rfl)) rfl (Fields.cons (opens_string Tryd.underlying9 (by kernel_rfl)) rfl (Fields.cons (opens_string Tryd.underlying9 (by kernel_rfl)) rfl (Fields.cons (opens_string Tryd.underlying9 (by kernel_rfl)) rfl (Fields.cons (opens_slice Tryd.underlying24 (by kernel_rfl) (opens_string Tryd.underlying9 (by kernel_rfl))) rfl (Fields.cons (opens_int (k := .i64) Tryd.underlying3 (by kernel_rfl)) rfl (Fields.last (opens_int (k := .i64) Tryd.underlying3 (by kernel_rfl)) rfl) rfl) rfl) rfl) rfl) rfl) rfl) rfl) rfl) rfl) rfl) rfl))
theorem agg_of {cs : Array Value} {l : List Value} (h : (Value.agg cs).cells.toList = l) : cs = l.toArray := by
  rw [← h]
  simp [Value.cells]
theorem KQA_inv {w : World} {x} {c : List Value} (h : KQA.K w x c) : ∃ a : QA, c = [.int .i64 a.vis, .int .i64 a.ret, .int .i64 a.del, .int .i64 a.win, .int .i64 a.max, .string a.dead, .bool a.fifo] := by
  obtain ⟨c0, d0, rfl, h0, c1, d1, rfl, h1, c2, d2, rfl, h2, c3, d3, rfl, h3, c4, d4, rfl, h4, c5, d5, rfl, h5, h6⟩ := h
  have h0 : c0 = [.int .i64 x.1] := h0
  have h1 : c1 = [.int .i64 x.2.1] := h1
  have h2 : c2 = [.int .i64 x.2.2.1] := h2
  have h3 : c3 = [.int .i64 x.2.2.2.1] := h3
  have h4 : c4 = [.int .i64 x.2.2.2.2.1] := h4
  have h5 : c5 = [.string x.2.2.2.2.2.1] := h5
  have h6 : d5 = [.bool x.2.2.2.2.2.2] := h6
  subst h0 h1 h2 h3 h4 h5 h6
  exact ⟨⟨x.1, x.2.1, x.2.2.1, x.2.2.2.1, x.2.2.2.2.1, x.2.2.2.2.2.1, x.2.2.2.2.2.2⟩, rfl⟩
theorem KCmd_inv {w : World} {x} {c : List Value} (h : KCmd.K w x c) : ∃ (m : Cm) (A : Option Addr) (nb cb : Nat), c = (m.cells (.slice A nb cb) m.n).toList ∧ Kd.string.C w A nb m.bodies := by
  obtain ⟨c0, d0, rfl, h0, c1, d1, rfl, h1, c2, d2, rfl, h2, c3, d3, rfl, h3, c4, d4, rfl, h4, c5, d5, rfl, h5, c6, d6, rfl, h6, c7, d7, rfl, h7, c8, d8, rfl, h8, c9, d9, rfl, h9, c10, d10, rfl, h10, h11⟩ := h
  have h0 : c0 = [.int .i64 x.1] := h0
  have h1 : c1 = [.int .i64 x.2.1] := h1
  have h2 : c2 = [.int .i64 x.2.2.1] := h2
  have h3 : c3 = [.string x.2.2.2.1] := h3
  obtain ⟨a, h4⟩ := KQA_inv h4
  have h5 : c5 = [.string x.2.2.2.2.2.1] := h5
  have h6 : c6 = [.string x.2.2.2.2.2.2.1] := h6
  have h7 : c7 = [.string x.2.2.2.2.2.2.2.1] := h7
  have h8 : c8 = [.string x.2.2.2.2.2.2.2.2.1] := h8
  obtain ⟨A, cb, h9, _, hC⟩ := h9
  have h10 : c10 = [.int .i64 x.2.2.2.2.2.2.2.2.2.2.1] := h10
  have h11 : d10 = [.int .i64 x.2.2.2.2.2.2.2.2.2.2.2] := h11
  subst h0 h1 h2 h3 h4 h5 h6 h7 h8 h9 h10 h11
  exact ⟨⟨x.1, x.2.1, x.2.2.1, x.2.2.2.1, a, x.2.2.2.2.2.1, x.2.2.2.2.2.2.1, x.2.2.2.2.2.2.2.1, x.2.2.2.2.2.2.2.2.1, x.2.2.2.2.2.2.2.2.2.1, x.2.2.2.2.2.2.2.2.2.2.1, x.2.2.2.2.2.2.2.2.2.2.2⟩, A, _, cb, rfl, hC⟩
/-- A command handed over. -/
theorem arg_cmd {H : Type} {enc : TypeId × Value → H} {w : World} {held : Bool} {cs : Array Value} {y : DataW H} {ps : List MemPlace} (h : DataW.Trod enc Tryd.prog w 0 (fun _ => true) held 26 (.agg cs) y ps) :
    ∃ (m : Cm) (A : Option Addr) (nb cb : Nat), cs = m.cells (.slice A nb cb) m.n ∧ Kd.string.C w A nb m.bodies := by
  obtain ⟨fuel, hf⟩ := h
  obtain ⟨x, hK, _⟩ := opens_cmd.get hf
  obtain ⟨m, A, nb, cb, h1, h2⟩ := KCmd_inv hK
  exact ⟨m, A, nb, cb, (agg_of h1).trans (by simp), h2⟩
end Go.Proofs.YtidjapjidihbpaaDoor
