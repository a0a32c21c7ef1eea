/- Put together: slices.Equal, shop.Same of any two answers. · law09.awake. -/
import Derived.Test.YtipdleiginnjmaaGreatDoorH15
import Derived.Test.YtipdleiginnjmaaGreatDoorWEqStruct
set_option linter.unusedVariables false
set_option linter.unusedSimpArgs false
set_option linter.unusedVariables false
set_option linter.unusedSimpArgs false
namespace Go.Proofs.YtipdleiginnjmaaGreatDoor
open Go.RowKit Go.Proofs.YtipdleiginnjmaaGreatDoorW.PrintWords
theorem str_beqE (a b : ByteArray) : (a.toList == b.toList) = decide (a = b) := by
  by_cases h : a = b
  · subst h; simp
  · rw [decide_eq_false h, beq_eq_false_iff_ne, Go.ByteArray.toList_eq, Go.ByteArray.toList_eq]
    exact fun e => h (ByteArray.ext (Array.toList_inj.1 e))
theorem int_beqE (a b : Int) : (a == b) = decide (a = b) := rfl
theorem neqTkQ (x y : Tk) (W : World) : (Go.binOp .neq 45 (.agg #[.int .i64 x.1, .int .i64 x.2.1, .string x.2.2.1, .string x.2.2.2.1, .string x.2.2.2.2]) (.agg #[.int .i64 y.1, .int .i64 y.2.1, .string y.2.2.1, .string y.2.2.2.1, .string y.2.2.2.2])).run Tryz.prog W = .ok (.bool (!decide (x = y))) W := by
  have h := eqA_of (P := Tryz.prog) (d := 9999) (w := W) Tryz.underlying45 (by kernel_rfl) (r := (x.1 == y.1) && ((x.2.1 == y.2.1) && ((x.2.2.1.toList == y.2.2.1.toList) && ((x.2.2.2.1.toList == y.2.2.2.1.toList) && (x.2.2.2.2.toList == y.2.2.2.2.toList)))))
    (xs := #[.int .i64 x.1, .int .i64 x.2.1, .string x.2.2.1, .string x.2.2.2.1, .string x.2.2.2.2]) (ys := #[.int .i64 y.1, .int .i64 y.2.1, .string y.2.2.1, .string y.2.2.2.1, .string y.2.2.2.2])
    (eqf_cons (by rfl) (a := .int .i64 _) (b := .int .i64 _) (by go_simp) (by go_simp) (run_equalIn_int _ _ _ .i64 .i64 _ _ (by kernel_rfl))
     (eqf_cons (by rfl) (a := .int .i64 _) (b := .int .i64 _) (by go_simp) (by go_simp) (run_equalIn_int _ _ _ .i64 .i64 _ _ (by kernel_rfl))
     (eqf_cons (by rfl) (by go_simp) (by go_simp) (run_equalIn_string _ _ _ _ _ (by kernel_rfl))
     (eqf_cons (by rfl) (by go_simp) (by go_simp) (run_equalIn_string _ _ _ _ _ (by kernel_rfl))
     (eqf_last (by rfl) (by go_simp) (by go_simp) (run_equalIn_string _ _ _ _ _ (by kernel_rfl)))))))
  have e : ((x.1 == y.1) && ((x.2.1 == y.2.1) && ((x.2.2.1.toList == y.2.2.1.toList) && ((x.2.2.2.1.toList == y.2.2.2.1.toList) && (x.2.2.2.2.toList == y.2.2.2.2.toList))))) = decide (x = y) := by
    rw [str_beqE, str_beqE, str_beqE, int_beqE, int_beqE]
    obtain ⟨a, b, c, d, e⟩ := x
    obtain ⟨a', b', c', d', e'⟩ := y
    simp only [Prod.mk.injEq, Bool.decide_and]
  rw [run_neq_struct, h, Result.andThen_ok, e]
theorem take_eq_of {α : Type} {xs ys : List α} {n j : Nat} (h1 : xs.length = n) (h2 : ys.length = n) (hj : ¬ j < n) (h : xs.take j = ys.take j) : xs = ys := by
  rw [List.take_of_length_le (by omega), List.take_of_length_le (by omega)] at h
  exact h
theorem take_ne_of {α : Type} {xs ys : List α} {j : Nat} {x y : α} (hx : xs[j]? = some x) (hy : ys[j]? = some y) (hn : ¬ x = y) : ¬ xs = ys := fun e => hn (by subst e; exact Option.some.inj (hx.symm.trans hy))
theorem KTk_inv {w : World} {x : Tk} {c : List Value} (h : KTk.K w x c) : c = [.int .i64 x.1, .int .i64 x.2.1, .string x.2.2.1, .string x.2.2.2.1, .string x.2.2.2.2] := by
  obtain ⟨c0, d0, rfl, h0, c1, d1, rfl, h1, c2, d2, rfl, h2, c3, d3, rfl, h3, h4⟩ := h
  have h0 : c0 = [.int .i64 x.1] := h0
  have h1 : c1 = [.int .i64 x.2.1] := h1
  have h2 : c2 = [.string x.2.2.1] := h2
  have h3 : c3 = [.string x.2.2.2.1] := h3
  have h4 : d3 = [.string x.2.2.2.2] := h4
  subst h0 h1 h2 h3 h4
  rfl
theorem C_nth_tk {w : World} {A : Option Addr} {n : Nat} {l : List Tk} (h : KTk.C w A n l) (k : Nat) (hk : k < n) :
    ∃ ad x, A = some ad ∧ l[k]? = some x ∧ w.cell? (ad.add (k * 5)) = some (.int .i64 x.1) ∧ w.cell? ⟨(ad.add (k * 5)).block, (ad.add (k * 5)).off + 1, none⟩ = some (.int .i64 x.2.1) ∧ w.cell? ⟨(ad.add (k * 5)).block, (ad.add (k * 5)).off + 2, none⟩ = some (.string x.2.2.1) ∧ w.cell? ⟨(ad.add (k * 5)).block, (ad.add (k * 5)).off + 3, none⟩ = some (.string x.2.2.2.1) ∧ w.cell? ⟨(ad.add (k * 5)).block, (ad.add (k * 5)).off + 4, none⟩ = some (.string x.2.2.2.2) := by
  obtain ⟨ad, x, c, hA, hx, _, hK, h3⟩ := C_nth h k hk
  have hc := KTk_inv hK
  subst hc
  have hsz : KTk.sz = 5 := rfl
  rw [hsz] at h3
  refine ⟨ad, x, hA, hx, h3 0 _ rfl, ?_, ?_, ?_, ?_⟩
  · have := h3 1 _ rfl; rw [← add_field ad _ 1 (by omega)]; exact this
  · have := h3 2 _ rfl; rw [← add_field ad _ 2 (by omega)]; exact this
  · have := h3 3 _ rfl; rw [← add_field ad _ 3 (by omega)]; exact this
  · have := h3 4 _ rfl; rw [← add_field ad _ 4 (by omega)]; exact this
set_option maxHeartbeats 3200000 in
set_option maxRecDepth 100000 in
theorem eqInts_any (xs ys : List Int) (A : Option Addr) (n c : Nat) (A2 : Option Addr) (n2 c2 : Nat) (w : World) (h1 : (Kd.int .i64).C w A n xs) (h3 : (Kd.int .i64).C w A2 n2 ys) :
    Calls Tryz.prog 40 #[.slice A n c, .slice A2 n2 c2] w fun e w' => e = .returned (.bool (decide (xs = ys))) ∧ Below w.heap.size w w' := by
  have H1 := Lib.hid h1
  have H3 := Lib.hid h3
  have hmx := Kd.C_max h1
  have hmy := Kd.C_max h3
  have L1 := Lib.hid (Kd.C_len h1)
  have L2 := Lib.hid (Kd.C_len h3)
  clear h1 h3
  obtain ⟨bd, hbd⟩ : ∃ b, b = decide (xs = ys) := ⟨_, rfl⟩
  rw [← hbd]
  have HBD := Lib.hid hbd
  clear hbd
  by_cases hne : n = n2
  case neg =>
    have i0 : ¬ (n : Int) = (n2 : Int) := by omega
    have hd : bd = false := by rw [HBD.out]; exact decide_eq_false (fun e => hne (by rw [← L1.out, ← L2.out, e]))
    subst hd
    go_enter Tryz.func40, Tryz.ntmps40
    go_wp2_with fail
    go_ret
    exact ⟨rfl, Below.refl _ _⟩
  case pos =>
  subst hne
  go_enter Tryz.func40, Tryz.ntmps40
  go_wp2_with fail
  go_loopw [13] (fun i wr => ∃ j : Nat, i = .int .i64 j ∧ j ≤ n ∧ xs.take j = ys.take j ∧ Hp w wr []) (fun i _ => n - (intOf i).toNat)
  case atStart => exact ⟨0, rfl, Nat.zero_le _, rfl, Hp.nil w⟩
  case round =>
    obtain ⟨j, rfl, hj, ht, hQ⟩ := hrel
    have HQ := Lib.hid hQ
    have HT := Lib.hid ht
    clear hQ ht
    by_cases hjn : j < n
    case pos =>
      obtain ⟨ad, x, rfl, hx, d0⟩ := C_nth_scalar (Kd.C_below H1.out HQ.out.belowW) j hjn
      obtain ⟨ae, y, rfl, hy, e0⟩ := C_nth_scalar (Kd.C_below H3.out HQ.out.belowW) j hjn
      have i0 : (0 : Int) ≤ (j : Int) := by omega
      have i1 : (j : Int) < (n : Int) := by omega
      by_cases hxy : x = y
      case pos =>
        subst hxy
        have HT2 := Lib.hid (show xs.take (j + 1) = ys.take (j + 1) by rw [List.take_add_one, List.take_add_one, HT.out, hx, hy])
        have _h0 := i0
        clear hx hy
        go_wp2_with fail
        go_quiet (fail)
        go_wp2_with fail
        refine ⟨⟨j + 1, by simp, by omega, HT2.out, HQ.out.below (pw_below_drewN (Below.refl _ _) _)⟩, ?_⟩
        simp [intOf]
        omega
      case neg =>
        have HF := Lib.hid (show bd = false by rw [HBD.out]; exact decide_eq_false (take_ne_of hx hy hxy))
        have hb : (x != y) = true := by simpa using hxy
        clear hx hy
        go_wp2_with fail
        go_quiet (fail)
        go_wp2_with fail
        go_ret
        exact ⟨by rw [HF.out]; rfl, (HQ.out.below (pw_below_drewN (Below.refl _ _) _)).belowW⟩
    case neg =>
      have i1 : ¬ (j : Int) < (n : Int) := by omega
      have HF := Lib.hid (show bd = true by rw [HBD.out]; exact decide_eq_true (take_eq_of L1.out L2.out hjn HT.out))
      go_wp2_with fail
      go_ret
      exact ⟨by rw [HF.out]; rfl, HQ.out.belowW⟩
set_option maxHeartbeats 3200000 in
set_option maxRecDepth 100000 in
theorem eqTooks_any (xs ys : List Tk) (A : Option Addr) (n c : Nat) (A2 : Option Addr) (n2 c2 : Nat) (w : World) (h1 : KTk.C w A n xs) (h3 : KTk.C w A2 n2 ys) :
    Calls Tryz.prog 41 #[.slice A n c, .slice A2 n2 c2] w fun e w' => e = .returned (.bool (decide (xs = ys))) ∧ Below w.heap.size w w' := by
  have H1 := Lib.hid h1
  have H3 := Lib.hid h3
  have hmx := Kd.C_max h1
  have hmy := Kd.C_max h3
  have L1 := Lib.hid (Kd.C_len h1)
  have L2 := Lib.hid (Kd.C_len h3)
  clear h1 h3
  obtain ⟨bd, hbd⟩ : ∃ b, b = decide (xs = ys) := ⟨_, rfl⟩
  rw [← hbd]
  have HBD := Lib.hid hbd
  clear hbd
  by_cases hne : n = n2
  case neg =>
    have i0 : ¬ (n : Int) = (n2 : Int) := by omega
    have hd : bd = false := by rw [HBD.out]; exact decide_eq_false (fun e => hne (by rw [← L1.out, ← L2.out, e]))
    subst hd
    go_enter Tryz.func41, Tryz.ntmps41
    go_wp2_with fail
    go_ret
    exact ⟨rfl, Below.refl _ _⟩
  case pos =>
  subst hne
  go_enter Tryz.func41, Tryz.ntmps41
  go_wp2_with fail
  go_loopw [13] (fun i wr => ∃ j : Nat, i = .int .i64 j ∧ j ≤ n ∧ xs.take j = ys.take j ∧ Hp w wr []) (fun i _ => n - (intOf i).toNat)
  case atStart => exact ⟨0, rfl, Nat.zero_le _, rfl, Hp.nil w⟩
  case round =>
    obtain ⟨j, rfl, hj, ht, hQ⟩ := hrel
    have HQ := Lib.hid hQ
    have HT := Lib.hid ht
    clear hQ ht
    by_cases hjn : j < n
    case pos =>
      obtain ⟨ad, x, rfl, hx, d0, d1, d2, d3, d4⟩ := C_nth_tk (Kd.C_below H1.out HQ.out.belowW) j hjn
      obtain ⟨ae, y, rfl, hy, e0, e1, e2, e3, e4⟩ := C_nth_tk (Kd.C_below H3.out HQ.out.belowW) j hjn
      have i0 : (0 : Int) ≤ (j : Int) := by omega
      have i1 : (j : Int) < (n : Int) := by omega
      by_cases hxy : x = y
      case pos =>
        subst hxy
        have HT2 := Lib.hid (show xs.take (j + 1) = ys.take (j + 1) by rw [List.take_add_one, List.take_add_one, HT.out, hx, hy])
        have hne2 := neqTkQ x x
        rw [decide_eq_true rfl] at hne2
        clear hx hy
        go_wp2_with fail
        go_quiet (fail)
        go_wp2_with fail
        refine ⟨⟨j + 1, by simp, by omega, HT2.out, HQ.out.below (pw_below_drewN (Below.refl _ _) _)⟩, ?_⟩
        simp [intOf]
        omega
      case neg =>
        have HF := Lib.hid (show bd = false by rw [HBD.out]; exact decide_eq_false (take_ne_of hx hy hxy))
        have hne2 := neqTkQ x y
        rw [decide_eq_false hxy] at hne2
        clear hx hy
        go_wp2_with fail
        go_quiet (fail)
        go_wp2_with fail
        go_ret
        exact ⟨by rw [HF.out]; rfl, (HQ.out.below (pw_below_drewN (Below.refl _ _) _)).belowW⟩
    case neg =>
      have i1 : ¬ (j : Int) < (n : Int) := by omega
      have HF := Lib.hid (show bd = true by rw [HBD.out]; exact decide_eq_true (take_eq_of L1.out L2.out hjn HT.out))
      go_wp2_with fail
      go_ret
      exact ⟨by rw [HF.out]; rfl, HQ.out.belowW⟩
def SameAn (a b : An) : Prop := a.code = b.code ∧ a.ids = b.ids ∧ a.took = b.took
instance (a b : An) : Decidable (SameAn a b) := inferInstanceAs (Decidable (_ ∧ _))
theorem blk3c {w : World} {g t : Nat} {x0 x1 x2 : Value} (h : w.heap[g]? = some (.cells #[x0, x1, x2] t (0, 0))) : w.cell? ⟨g, 0, none⟩ = some x0 ∧ w.cell? ⟨g, 1, none⟩ = some x1 ∧ w.cell? ⟨g, 2, none⟩ = some x2 ∧ True := ⟨blk_cell h 0, blk_cell h 1, blk_cell h 2, trivial⟩
set_option maxHeartbeats 3200000 in
set_option maxRecDepth 100000 in
theorem same_any (a b : An) (A : Option Addr) (n c : Nat) (B : Option Addr) (m d : Nat) (A2 : Option Addr) (n2 c2 : Nat) (B2 : Option Addr) (m2 d2 : Nat) (w : World) (h1 : (Kd.int .i64).C w A n a.ids) (h2 : KTk.C w B m a.took) (h3 : (Kd.int .i64).C w A2 n2 b.ids) (h4 : KTk.C w B2 m2 b.took) :
    Calls Tryz.prog 18 #[.agg #[.int .i64 a.code, .slice A n c, .slice B m d], .agg #[.int .i64 b.code, .slice A2 n2 c2, .slice B2 m2 d2]] w fun e w' => e = .returned (.bool (decide (SameAn a b))) ∧ Below w.heap.size w w' := by
  have H1 := Lib.hid h1
  have H2 := Lib.hid h2
  have H3 := Lib.hid h3
  have H4 := Lib.hid h4
  clear h1 h2 h3 h4
  obtain ⟨bd, hbd⟩ : ∃ x, x = decide (SameAn a b) := ⟨_, rfl⟩
  rw [← hbd]
  have HBD := Lib.hid hbd
  clear hbd
  have hp0 := ((Hp.nil w).alloc (.cells #[.int .i64 a.code, .slice A n c, .slice B m d] 36)).alloc (.cells #[.int .i64 b.code, .slice A2 n2 c2, .slice B2 m2 d2] 36)
  have hz : (w.alloc (.cells #[.int .i64 a.code, .slice A n c, .slice B m d] 36)).heap.size = w.heap.size + 1 := by simp
  rw [hz] at hp0
  have HP0 := Lib.hid hp0
  clear hp0 hz
  obtain ⟨x0, x1, x2, _⟩ := blk3c (by exact HP0.out.blk1)
  obtain ⟨y0, y1, y2, _⟩ := blk3c (by exact HP0.out.blk0)
  have HE1 := Lib.hid (eqInts_any a.ids b.ids A n c A2 n2 c2 _ (Kd.C_below H1.out HP0.out.belowW) (Kd.C_below H3.out HP0.out.belowW))
  by_cases hc : a.code = b.code
  case neg =>
    have HF := Lib.hid (show bd = false by rw [HBD.out]; exact decide_eq_false (fun h => hc h.1))
    go_enter Tryz.func18, Tryz.ntmps18
    go_wp2_with fail
    go_ret
    exact ⟨by rw [HF.out]; rfl, HP0.out.belowW⟩
  case pos =>
  have HCE := Lib.hid hc
  have hb : (a.code == b.code) = true := by simpa using hc
  clear hc
  by_cases hi : a.ids = b.ids
  case neg =>
    have HF := Lib.hid (show bd = false by rw [HBD.out]; exact decide_eq_false (fun h => hi h.2.1))
    rw [decide_eq_false hi] at HE1
    clear hi
    go_enter Tryz.func18, Tryz.ntmps18
    go_wp2_with (go_at_call 40; refine Calls.mono HE1.out ?_; rintro e w2 ⟨rfl, hB2⟩; have HP2 := Lib.hid (HP0.out.below hB2); clear x0 x1 x2 y0 y1 y2 hB2; obtain ⟨x0, x1, x2, _⟩ := blk3c (by exact HP2.out.blk1); obtain ⟨y0, y1, y2, _⟩ := blk3c (by exact HP2.out.blk0))
    go_ret
    exact ⟨by rw [HF.out]; rfl, HP2.out.belowW⟩
  case pos =>
  have HF := Lib.hid (show bd = decide (a.took = b.took) by rw [HBD.out]; exact decide_eq_decide.2 ⟨fun h => h.2.2, fun h => ⟨HCE.out, hi, h⟩⟩)
  rw [decide_eq_true hi] at HE1
  clear hi
  go_enter Tryz.func18, Tryz.ntmps18
  go_wp2_with (first | (go_at_call 40; refine Calls.mono HE1.out ?_; rintro e w2 ⟨rfl, hB2⟩; have HP2 := Lib.hid (HP0.out.below hB2); clear x0 x1 x2 y0 y1 y2 hB2; obtain ⟨x0, x1, x2, _⟩ := blk3c (by exact HP2.out.blk1); obtain ⟨y0, y1, y2, _⟩ := blk3c (by exact HP2.out.blk0); have HE2 := Lib.hid (eqTooks_any a.took b.took B m d B2 m2 d2 _ (Kd.C_below H2.out HP2.out.belowW) (Kd.C_below H4.out HP2.out.belowW))) | (go_at_call 41; refine Calls.mono HE2.out ?_; rintro e w3 ⟨rfl, hB3⟩; have HP3 := Lib.hid (HP2.out.below hB3); clear hB3))
  go_ret
  exact ⟨by rw [HF.out]; rfl, HP3.out.belowW⟩
end Go.Proofs.YtipdleiginnjmaaGreatDoor
set_option linter.unusedVariables false
set_option linter.unusedSimpArgs false
namespace Go.Proofs.YtipdleiginnjmaaGreatDoor
open Go.RowKit Go.Proofs.YtipdleiginnjmaaGreatDoorW.PrintWords
def aA : ByteArray := ⟨#[97]⟩
def a0 : ByteArray := ⟨#[]⟩
def attrA : QA := ⟨5, 100, 0, 0, 0, a0, false⟩
def cmZ : Cm := ⟨0, 0, 0, a0, ⟨0, 0, 0, 0, 0, a0, false⟩, a0, a0, a0, a0, [], 0, 0⟩
def aw1 : Cm := ⟨0, 0, 1, aA, attrA, a0, a0, a0, a0, [], 0, 0⟩
def aw2 : Cm := ⟨1, 1, 5, aA, ⟨0, 0, 0, 0, 0, a0, false⟩, ⟨#[120]⟩, a0, a0, a0, [], -1, 0⟩
def aw4 : Cm := ⟨0, 0, 7, aA, ⟨0, 0, 0, 0, 0, a0, false⟩, a0, a0, a0, a0, [], 5, 0⟩
def awS1 : Sh := (shApply shNew aw1).1
def awS2 : Sh := (shApply awS1 aw2).1
def awS3 : Sh := (shApply awS2 aw2).1
theorem aw_ok1 : CmOk aw1 := ⟨by decide, by decide, by decide, by decide⟩
theorem aw_ok2 : CmOk aw2 := ⟨by decide, by decide, by decide, by decide⟩
theorem aw_ok3 : CmOk aw2 := aw_ok2
theorem aw_ok4 : CmOk aw4 := ⟨by decide, by decide, by decide, by decide⟩
theorem aw_law1 : shApply shNew aw1 = (awS1, ⟨0, [], []⟩) := by kernel_rfl
theorem aw_law2 : shApply awS1 aw2 = (awS2, ⟨0, [1], []⟩) := by kernel_rfl
theorem aw_law3 : shApply awS2 aw2 = (awS3, ⟨0, [1], []⟩) := by kernel_rfl
theorem aw_law4 : ∃ S r, shApply awS3 aw4 = (S, ⟨0, [], [(1, (1, (r, (⟨#[120]⟩, a0))))]⟩) := ⟨(shApply awS3 aw4).1, receipt 1 1, by kernel_rfl⟩
theorem AnsE.lit {e : Ending} {cd : Int} {ids : List Int} {took : List Tk} {w0 w' : World} {Qs : List Asn} (h : AnsE e ⟨cd, ids, took⟩ w0 w' Qs) : ∃ A c B d, e = .returned (.agg #[.int .i64 cd, .slice A ids.length c, .slice B took.length d]) ∧ Hp w0 w' (AInt (.slice A ids.length c) ids :: ATk (.slice B took.length d) took :: Qs) := by
  obtain ⟨A, n, c, B, m, d, he, hn, hm, hP⟩ := h
  subst hn hm
  exact ⟨A, c, B, d, he, hP⟩
theorem info_attrS : (Tryz.prog.info? 29).map (·.size) = some 7 := by kernel_rfl
theorem attr_any (w : World) : Calls Tryz.prog 21 #[] w fun e w' => e = .returned (.agg #[.int .i64 5, .int .i64 100, .int .i64 0, .int .i64 0, .int .i64 0, .string a0, .bool false]) ∧ Below w.heap.size w w' := by
  have hp := (Hp.nil w).alloc (.cells #[.int .i64 0, .int .i64 0, .int .i64 0, .int .i64 0, .int .i64 0, .string a0, .bool false] 29)
  have HP := Lib.hid hp
  have HS := Lib.hid (hp.setRowBlkS #[.int .i64 5, .int .i64 100, .int .i64 0, .int .i64 0, .int .i64 0, .string a0, .bool false])
  clear hp
  go_enter Tryz.func21, Tryz.ntmps21
  go_wp2_with ((with_reducible refine gate_store (t := 29) (p := 0) (v := .tmp 1) rfl ?_); refine wpList_store_row rfl 29 (.tmp 0) (.tmp 1) rfl w.heap.size #[.int .i64 5, .int .i64 100, .int .i64 0, .int .i64 0, .int .i64 0, .string a0, .bool false] rfl rfl 29 #[.int .i64 0, .int .i64 0, .int .i64 0, .int .i64 0, .int .i64 0, .string a0, .bool false] HP.out.blk0 info_attrS rfl (by simp [Value.oneCell']) ?_)
  refine bodyPost_ret (results_cell_row rfl _ _ w.heap.size 29 #[.int .i64 5, .int .i64 100, .int .i64 0, .int .i64 0, .int .i64 0, .string a0, .bool false] (0, 0) _ rfl HS.out.blk0 Tryz.underlying29 rfl info_attrS) rfl ?_
  exact ⟨rfl, HS.out.belowW⟩
set_option maxHeartbeats 6400000 in
set_option maxRecDepth 100000 in
theorem awake_any (w : World) (hrec : RecTab w) (hE : ErrCell w) : Calls Tryz.prog 15 #[] w fun e w' => e = .returned (.bool true) ∧ Below w.heap.size w w' := by
  have HREC := Lib.hid hrec
  have HE := Lib.hid hE
  have HNEW := Lib.hid (Hp.nil w).soNew
  obtain ⟨awS4, rc, hlaw4⟩ := aw_law4
  clear hrec hE
  go_enter Tryz.func15, Tryz.ntmps15
  go_wp2_with fail
  refine Calls.mono HNEW.out ?_
  rintro e w0 ⟨sb, rfl, hP⟩
  have HQ0 := Lib.hid hP
  clear hP
  go_upto_region 4 with (fail)
  go_wp2_with fail
  refine Calls.mono (attr_any _) ?_
  rintro e w0' ⟨rfl, hB0⟩
  have HQ0 := Lib.hid (HQ0.out.below hB0)
  clear hB0
  have HC1 := Lib.hid (HQ0.out.soApply (by omega) HREC.out HE.out aw1 none 0 0 (fun w1 _ => Kd.C_nil _ _) aw_ok1)
  rw [aw_law1] at HC1
  dsimp only at HC1
  go_wp2_with fail
  refine Calls.mono HC1.out ?_
  rintro e w1 hA
  obtain ⟨A1, c1, B1, d1, rfl, hP⟩ := (show ∃ A c B d, e = .returned (.agg #[.int .i64 0, .slice A 0 c, .slice B 0 d]) ∧ Hp w w1 (AInt (.slice A 0 c) [] :: ATk (.slice B 0 d) [] :: AShO sb awS1 1 :: _) from hA.lit)
  clear hA
  have HPa1 := Lib.hid (hP.alloc (.cells #[.int .i64 0, .slice none 0 0, .slice none 0 0] 36))
  clear hP
  go_upto_region 5 with ((with_reducible refine gate_store (t := 36) (p := 2) (v := .tmp 12) rfl ?_); refine wpList_store_row rfl 36 (.tmp 2) (.tmp 12) rfl w1.heap.size #[.int .i64 0, .slice A1 0 c1, .slice B1 0 d1] rfl rfl 36 #[.int .i64 0, .slice none 0 0, .slice none 0 0] HPa1.out.blk0 info_ansS rfl (by simp [Value.oneCell']) ?_)
  have HQ1 := Lib.hid (HPa1.out.setRowBlkS #[.int .i64 0, .slice A1 0 c1, .slice B1 0 d1]).up3
  obtain ⟨b1, hb1⟩ : ∃ b, b = w1.heap.size := ⟨_, rfl⟩
  rw [← hb1] at HQ1 ⊢
  clear hb1 HPa1
  generalize (w1.alloc (.cells #[.int .i64 0, .slice none 0 0, .slice none 0 0] 36)).setRow b1 #[.int .i64 0, .slice A1 0 c1, .slice B1 0 d1] = W1 at *
  have HC2 := Lib.hid (HQ1.out.soApply (by omega) HREC.out HE.out aw2 none 0 0 (fun w1 _ => Kd.C_nil _ _) aw_ok2)
  rw [aw_law2] at HC2
  dsimp only at HC2
  go_wp2_with fail
  refine Calls.mono HC2.out ?_
  rintro e w2 hA
  obtain ⟨A2, c2, B2, d2, rfl, hP⟩ := (show ∃ A c B d, e = .returned (.agg #[.int .i64 0, .slice A 1 c, .slice B 0 d]) ∧ Hp w w2 (AInt (.slice A 1 c) [1] :: ATk (.slice B 0 d) [] :: AShO sb awS2 2 :: _) from hA.lit)
  clear hA
  have HPa2 := Lib.hid (hP.alloc (.cells #[.int .i64 0, .slice none 0 0, .slice none 0 0] 36))
  clear hP
  go_upto_region 6 with ((with_reducible refine gate_store (t := 36) (p := 3) (v := .tmp 15) rfl ?_); refine wpList_store_row rfl 36 (.tmp 3) (.tmp 15) rfl w2.heap.size #[.int .i64 0, .slice A2 1 c2, .slice B2 0 d2] rfl rfl 36 #[.int .i64 0, .slice none 0 0, .slice none 0 0] HPa2.out.blk0 info_ansS rfl (by simp [Value.oneCell']) ?_)
  have HQ2 := Lib.hid (HPa2.out.setRowBlkS #[.int .i64 0, .slice A2 1 c2, .slice B2 0 d2]).up3
  obtain ⟨b2, hb2⟩ : ∃ b, b = w2.heap.size := ⟨_, rfl⟩
  rw [← hb2] at HQ2 ⊢
  clear hb2 HPa2
  generalize (w2.alloc (.cells #[.int .i64 0, .slice none 0 0, .slice none 0 0] 36)).setRow b2 #[.int .i64 0, .slice A2 1 c2, .slice B2 0 d2] = W2 at *
  have HC3 := Lib.hid (HQ2.out.soApply (by omega) HREC.out HE.out aw2 none 0 0 (fun w1 _ => Kd.C_nil _ _) aw_ok3)
  rw [aw_law3] at HC3
  dsimp only at HC3
  go_wp2_with fail
  refine Calls.mono HC3.out ?_
  rintro e w3 hA
  obtain ⟨A3, c3, B3, d3, rfl, hP⟩ := (show ∃ A c B d, e = .returned (.agg #[.int .i64 0, .slice A 1 c, .slice B 0 d]) ∧ Hp w w3 (AInt (.slice A 1 c) [1] :: ATk (.slice B 0 d) [] :: AShO sb awS3 3 :: _) from hA.lit)
  clear hA
  have HPa3 := Lib.hid (hP.alloc (.cells #[.int .i64 0, .slice none 0 0, .slice none 0 0] 36))
  clear hP
  go_upto_region 7 with ((with_reducible refine gate_store (t := 36) (p := 4) (v := .tmp 18) rfl ?_); refine wpList_store_row rfl 36 (.tmp 4) (.tmp 18) rfl w3.heap.size #[.int .i64 0, .slice A3 1 c3, .slice B3 0 d3] rfl rfl 36 #[.int .i64 0, .slice none 0 0, .slice none 0 0] HPa3.out.blk0 info_ansS rfl (by simp [Value.oneCell']) ?_)
  have HQ3 := Lib.hid (HPa3.out.setRowBlkS #[.int .i64 0, .slice A3 1 c3, .slice B3 0 d3]).up3
  obtain ⟨b3, hb3⟩ : ∃ b, b = w3.heap.size := ⟨_, rfl⟩
  rw [← hb3] at HQ3 ⊢
  clear hb3 HPa3
  generalize (w3.alloc (.cells #[.int .i64 0, .slice none 0 0, .slice none 0 0] 36)).setRow b3 #[.int .i64 0, .slice A3 1 c3, .slice B3 0 d3] = W3 at *
  have HC4 := Lib.hid (HQ3.out.soApply (by omega) HREC.out HE.out aw4 none 0 0 (fun w1 _ => Kd.C_nil _ _) aw_ok4)
  rw [hlaw4] at HC4
  dsimp only at HC4
  go_wp2_with fail
  refine Calls.mono HC4.out ?_
  rintro e w4 hA
  obtain ⟨A4, c4, B4, d4, rfl, hP⟩ := (show ∃ A c B d, e = .returned (.agg #[.int .i64 0, .slice A 0 c, .slice B 1 d]) ∧ Hp w w4 (AInt (.slice A 0 c) [] :: ATk (.slice B 1 d) [(1, (1, (rc, (⟨#[120]⟩, a0))))] :: AShO sb awS4 4 :: _) from hA.lit)
  clear hA
  have HPa4 := Lib.hid (hP.alloc (.cells #[.int .i64 0, .slice none 0 0, .slice none 0 0] 36))
  clear hP
  go_upto_region 8 with ((with_reducible refine gate_store (t := 36) (p := 5) (v := .tmp 21) rfl ?_); refine wpList_store_row rfl 36 (.tmp 5) (.tmp 21) rfl w4.heap.size #[.int .i64 0, .slice A4 0 c4, .slice B4 1 d4] rfl rfl 36 #[.int .i64 0, .slice none 0 0, .slice none 0 0] HPa4.out.blk0 info_ansS rfl (by simp [Value.oneCell']) ?_)
  have HQ4 := Lib.hid (HPa4.out.setRowBlkS #[.int .i64 0, .slice A4 0 c4, .slice B4 1 d4]).up3
  obtain ⟨b4, hb4⟩ : ∃ b, b = w4.heap.size := ⟨_, rfl⟩
  rw [← hb4] at HQ4 ⊢
  clear hb4 HPa4
  generalize (w4.alloc (.cells #[.int .i64 0, .slice none 0 0, .slice none 0 0] 36)).setRow b4 #[.int .i64 0, .slice A4 0 c4, .slice B4 1 d4] = W4 at *
  obtain ⟨p0, p1, p2, _⟩ := blk3c (by exact HQ4.out.tail.tail.tail.tail.tail.tail.tail.tail.tail.tail.blk0)
  obtain ⟨q0, q1, q2, _⟩ := blk3c (by exact HQ4.out.tail.tail.tail.tail.tail.tail.tail.blk0)
  obtain ⟨r0, r1, r2, _⟩ := blk3c (by exact HQ4.out.tail.tail.tail.tail.blk0)
  obtain ⟨s0, s1, s2, _⟩ := blk3c (by exact HQ4.out.tail.blk0)
  obtain ⟨ad, tk, hA, hx, t0, t1, t2, t3, t4⟩ := C_nth_tk (Kd.R_reads' HQ4.out.tail.tail.tail.head).2.2 0 (Nat.zero_lt_one)
  obtain rfl : (1, (1, (rc, (⟨#[120]⟩, a0)))) = tk := Option.some.inj hx
  simp [Addr.add] at t3
  clear hx t0 t1 t2 t4
  subst hA
  have HS1 := Lib.hid (same_any ⟨0, [1], []⟩ ⟨0, [1], []⟩ A2 1 c2 B2 0 d2 A3 1 c3 B3 0 d3 _ (Kd.R_reads' HQ4.out.tail.tail.tail.tail.tail.tail.tail.tail.head).2.2 (Kd.R_reads' HQ4.out.tail.tail.tail.tail.tail.tail.tail.tail.tail.head).2.2 (Kd.R_reads' HQ4.out.tail.tail.tail.tail.tail.head).2.2 (Kd.R_reads' HQ4.out.tail.tail.tail.tail.tail.tail.head).2.2)
  rw [decide_eq_true (show SameAn ⟨0, [1], []⟩ ⟨0, [1], []⟩ from ⟨rfl, rfl, rfl⟩)] at HS1
  go_wp2_with (first | (go_at_call 18; refine Calls.mono HS2.out ?_; rintro e w6 ⟨rfl, hB⟩; have HQ6 := Lib.hid (HQ5.out.below hB); clear p0 p1 p2 q0 q1 q2 r0 r1 r2 s0 s1 s2 t3 hB) | (go_at_call 18; refine Calls.mono HS1.out ?_; rintro e w5 ⟨rfl, hB⟩; have HQ5 := Lib.hid (HQ4.out.below hB); clear p0 p1 p2 q0 q1 q2 r0 r1 r2 s0 s1 s2 t3 hB; obtain ⟨p0, p1, p2, _⟩ := blk3c (by exact HQ5.out.tail.tail.tail.tail.tail.tail.tail.tail.tail.tail.blk0); obtain ⟨q0, q1, q2, _⟩ := blk3c (by exact HQ5.out.tail.tail.tail.tail.tail.tail.tail.blk0); obtain ⟨r0, r1, r2, _⟩ := blk3c (by exact HQ5.out.tail.tail.tail.tail.blk0); obtain ⟨s0, s1, s2, _⟩ := blk3c (by exact HQ5.out.tail.blk0); obtain ⟨ad, tk, hA5, hx, t0, t1, t2, t3, t4⟩ := C_nth_tk (Kd.R_reads' HQ5.out.tail.tail.tail.head).2.2 0 (Nat.zero_lt_one); obtain rfl : (1, (1, (rc, (⟨#[120]⟩, a0)))) = tk := Option.some.inj hx; simp [Addr.add] at t3; clear hx t0 t1 t2 t4; obtain rfl := Option.some.inj hA5; have HS2 := Lib.hid (same_any ⟨0, [], []⟩ ⟨0, [1], []⟩ A1 0 c1 B1 0 d1 A2 1 c2 B2 0 d2 _ (Kd.R_reads' HQ5.out.tail.tail.tail.tail.tail.tail.tail.tail.tail.tail.tail.head).2.2 (Kd.R_reads' HQ5.out.tail.tail.tail.tail.tail.tail.tail.tail.tail.tail.tail.tail.head).2.2 (Kd.R_reads' HQ5.out.tail.tail.tail.tail.tail.tail.tail.tail.head).2.2 (Kd.R_reads' HQ5.out.tail.tail.tail.tail.tail.tail.tail.tail.tail.head).2.2); rw [decide_eq_false (show ¬ SameAn ⟨0, [], []⟩ ⟨0, [1], []⟩ from fun h => by cases h.2.1)] at HS2))
  go_ret
  exact ⟨rfl, HQ6.out.belowW⟩
end Go.Proofs.YtipdleiginnjmaaGreatDoor
