/- The document's Put. -/
import Derived.Test.YtehkhopkedbngaaLdRef
import Derived.Deep.DeepCutAuto
namespace Go.Proofs.Ytehkhopkedbngaa
open Go.RowKit Go.Proofs.YtehkhopkedbngaaW.PrintWords
set_option linter.unusedSimpArgs false

/-- The keys ahead of a key, and those behind it. -/
def lows (d : List (Ent Int)) (k : ByteArray) : List (Ent Int) := d.filter (fun p => decide (bl p.1 k))
def highs (d : List (Ent Int)) (k : ByteArray) : List (Ent Int) := d.filter (fun p => decide (bl k p.1))
theorem ldPut_eq (r : List (Ent Int)) (k : ByteArray) (x : Int × Int) : ldPut r k x = lows (mdel r k) k ++ [(k, x)] ++ highs (mdel r k) k := by unfold ldPut lows highs; simp
theorem lows_step {d : List (Ent Int)} {j : Nat} {p : Ent Int} (h : d[j]? = some p) (k : ByteArray) : lows (d.take (j + 1)) k = lows (d.take j) k ++ (if Op.bytesLess p.1.toList k.toList = true then [p] else []) := by
  unfold lows
  rw [List.take_add_one, h, List.filter_append, bl_less]
  congr 1
  by_cases e : bl p.1 k <;> simp [e]
theorem highs_step {d : List (Ent Int)} {j : Nat} {p : Ent Int} (h : d[j]? = some p) (k : ByteArray) : highs (d.take (j + 1)) k = highs (d.take j) k ++ (if Op.bytesLess k.toList p.1.toList = true then [p] else []) := by
  unfold highs
  rw [List.take_add_one, h, List.filter_append, bl_less]
  congr 1
  by_cases e : bl k p.1 <;> simp [e]
theorem gtr_less (a b : ByteArray) : (!Op.bytesLess a.toList b.toList && !a.toList == b.toList) = Op.bytesLess b.toList a.toList := by
  rw [bl_less, bl_less]
  rcases Classical.em (a = b) with e | e
  · subst e
    simp [bl_irrefl]
  · rw [bytes_ne e]
    rcases bl_tri e with h | h
    · simp [h, bl_asymm h]
    · simp [h, bl_asymm h]
theorem lows_len (d : List (Ent Int)) (j : Nat) (k : ByteArray) : (lows (d.take j) k).length ≤ d.length := by
  have h1 : (lows (d.take j) k).length ≤ (d.take j).length := List.length_filter_le _ _
  rw [List.length_take] at h1
  omega
theorem highs_len (d : List (Ent Int)) (j : Nat) (k : ByteArray) : (highs (d.take j) k).length ≤ d.length := by
  have h1 : (highs (d.take j) k).length ≤ (d.take j).length := List.length_filter_le _ _
  rw [List.length_take] at h1
  omega

set_option maxHeartbeats 1600000 in
set_option maxRecDepth 100000 in
theorem refPut_any (A : Option Addr) (n cap : Nat) (r : List (Ent Int)) (room : Int) (key : ByteArray) (v u : Int) (w : World) (hC : KE.C w A n r) (hn : n ≤ 10000) :
    Calls Try.prog 23 #[.slice A n cap, .int .i64 room, .agg #[.string key, .int .i64 v, .int .i64 u]] w fun e w' =>
      (mayPut room r key = true → ∃ A' c', e = .returned (.tuple #[.slice A' (ldPut r key (v, u)).length c', .int .i64 0]) ∧ KE.R 51 w' 0 (fun k => w.heap.size ≤ k) (.slice A' (ldPut r key (v, u)).length c') (ldPut r key (v, u)) ∧ Below w.heap.size w w') ∧
      (mayPut room r key = false → e = .returned (.tuple #[.slice A n cap, .int .i64 5]) ∧ Below w.heap.size w w') := by
  have HN := Lib.hid (Kd.C_len hC)
  have HC := Lib.hid hC
  have hm := Kd.C_max hC
  clear hC
  have hmay : mayPut room r key = (hasKey r key || decide ((n : Int) < room)) := by unfold mayPut; rw [HN.out]
  have hh := enAt_has r key
  have HP0 := Lib.hid ((Hp.nil w).alloc (.cells #[.string key, .int .i64 v, .int .i64 u] 51))
  have HC2 := Lib.hid (Kd.C_below HC.out HP0.out.belowW)
  go_enter Try.func23, Try.ntmps23
  go_upto_region 1 with (fail)
  go_cut [25] (fun b wx => b = .bool (!mayPut room r key) ∧ Hp w wx [ABlk w.heap.size (.cells #[.string key, .int .i64 v, .int .i64 u] 51)])
  case first =>
    have b0 := blk_cell HP0.out.blk0 0
    simp only [List.getElem?_toArray, List.getElem?_cons_succ, List.getElem?_cons_zero] at b0
    go_wp2_with fail
    refine Calls.mono (refAt_any A n cap r key _ HC2.out) ?_
    rintro e w2 ⟨rfl, hB2⟩
    have HP2 := Lib.hid (HP0.out.below hB2)
    generalize enAt r key = a at *
    clear hB2 b0
    by_cases hlt : a < 0
    · rw [hh.1 hlt] at hmay
      by_cases hnr : (n : Int) < room
      · have h1 : ¬ room ≤ (n : Int) := by omega
        have h2 : ¬ room < 1 := by omega
        rw [decide_eq_true hnr] at hmay
        have HM := Lib.hid hmay
        clear hmay hh hnr
        go_wp2_with fail
        go_meet
        case rel => exact ⟨by rw [HM.out, decide_eq_false (show ¬ room ≤ (n : Int) by omega), decide_eq_false (show ¬ room < 1 by omega)]; rfl, HP2.out⟩
      · have h1 : room ≤ (n : Int) := by omega
        rw [decide_eq_false hnr] at hmay
        have HM := Lib.hid hmay
        clear hmay hh hnr
        go_wp2_with fail
        go_meet
        case rel => exact ⟨by rw [HM.out]; first | rfl | (simp [*]; done), HP2.out⟩
    · have hk : hasKey r key = true := by
        cases h : hasKey r key
        · exact absurd (hh.2 h) hlt
        · rfl
      rw [hk] at hmay
      have HM := Lib.hid hmay
      clear hmay hh hk
      go_wp2_with fail
      go_meet
      case rel => exact ⟨by rw [HM.out]; first | rfl | (simp [*]; done), HP2.out⟩
  case rest =>
    obtain ⟨rfl, hQ⟩ := hcut
    have HQ := Lib.hid hQ
    have b0 := blk_cell hQ.blk0 0
    simp only [List.getElem?_toArray, List.getElem?_cons_succ, List.getElem?_cons_zero] at b0
    clear hmay hh hQ
    cases hmp : mayPut room r key
    case' false =>
      have HMP := Lib.hid hmp
      clear hmp b0
      go_wp2_with fail
      go_ret2
      exact ⟨fun h => absurd (HMP.out.symm.trans h) (by decide), fun _ => ⟨rfl, HQ.out.belowW⟩⟩
    case' true =>
      have HMP := Lib.hid hmp
      clear hmp
      have HC3 := Lib.hid (Kd.C_below HC.out HQ.out.belowW)
      go_wp2_with fail
      refine Calls.mono (refDrop_any A n cap r key wc HC3.out (by omega)) ?_
      rintro e w3 ⟨A3, c3, rfl, hR3, hB3⟩
      have hP3 : Hp w w3 [AEn (.slice A3 (mdel r key).length c3) (mdel r key), ABlk w.heap.size (.cells #[.string key, .int .i64 v, .int .i64 u] 51)] := HQ.out.fresh hB3 hR3
      have HP3 := Lib.hid hP3
      have HLP := Lib.hid (ldPut_eq r key (v, u))
      have hdl : (mdel r key).length ≤ 10000 := by
        have h1 : (mdel r key).length ≤ r.length := List.length_filter_le _ _
        have := HN.out
        omega
      clear hR3 hB3 hP3 b0
      generalize mdel r key = d at *
      obtain ⟨nd, hnd⟩ : ∃ nd, nd = d.length := ⟨_, rfl⟩
      rw [← hnd] at HP3 hdl ⊢
      have HND := Lib.hid hnd
      clear hnd
      go_wp2_with fail
      go_loopw [8, 9] (fun o i wr => ∃ j : Nat, i = .int .i64 j ∧ j ≤ nd ∧ Hp w wr [AEn o (lows (d.take j) key), AEn (.slice A3 nd c3) d, ABlk w.heap.size (.cells #[.string key, .int .i64 v, .int .i64 u] 51)]) (fun _ i _ => nd - (intOf i).toNat)
      case atStart => exact ⟨0, rfl, Nat.zero_le _, HP3.out.fresh (Below.refl _ _) (Kd.R_nil _ _ _ _ _)⟩
      case round =>
        obtain ⟨j, rfl, hj, hP⟩ := hrel
        have HP := Lib.hid hP
        clear hP
        have hll : (lows (d.take j) key).length ≤ 10000 := by have := lows_len d j key; have := HND.out; omega
        have b0 := blk_cell HP.out.tail.tail.blk0 0
        simp only [List.getElem?_toArray, List.getElem?_cons_succ, List.getElem?_cons_zero] at b0
        by_cases hjn : j < nd
        · obtain ⟨ad, pk, pv, pu, rfl, hx, d0, d1, d2⟩ := C_nth_ent (Kd.R_reads' HP.out.tail.head).2.2 j (by have := HND.out; omega)
          have i0 : (0 : Int) ≤ (j : Int) := by omega
          have i1 : (j : Int) < (nd : Int) := by omega
          have HLS := Lib.hid (lows_step hx key)
          have HXX := Lib.hid hx
          clear hx
          go_wp2_with fail
          go_cut [44] (fun b wx => b = .bool (Op.bytesLess pk.toList key.toList) ∧ Hp w wx [AEn u8 (lows (d.take j) key), AEn (.slice (some ad) nd c3) d, ABlk w.heap.size (.cells #[.string key, .int .i64 v, .int .i64 u] 51)])
          case first =>
            go_quiet (fail)
            go_wp2_with fail
            go_meet
            case rel => exact ⟨rfl, HP.out.below (pw_below_drewN (Below.refl _ _) _)⟩
          case rest =>
            obtain ⟨rfl, hX⟩ := hcut
            have HX := Lib.hid hX
            obtain ⟨ad', pk', pv', pu', had, hx, e0, e1, e2⟩ := C_nth_ent (Kd.R_reads' hX.tail.head).2.2 j (by have := HND.out; omega)
            injection had with had
            subst had
            obtain ⟨rfl, rfl, rfl⟩ : pk = pk' ∧ pv = pv' ∧ pu = pu' := by
              have := HXX.out.symm.trans hx
              simpa using this
            clear hx hX d0 d1 d2 b0
            cases hb : Op.bytesLess pk.toList key.toList
            case' false =>
              have HLS2 : Hid (lows (d.take (j + 1)) key = lows (d.take j) key) := Lib.hid (by have := HLS.out; simp only [hb] at this; simpa using this)
              clear hb
              go_wp2_with fail
              refine ⟨⟨j + 1, by simp, by omega, ?_⟩, ?_⟩
              · rw [HLS2.out]; exact HX.out
              · simp [intOf]
                omega
            case' true =>
              have HLS2 : Hid (lows (d.take (j + 1)) key = lows (d.take j) key ++ [(pk, (pv, pu))]) := Lib.hid (by have := HLS.out; simp only [hb] at this; simpa using this)
              clear hb
              obtain ⟨okr, hR1, hR2, hR3⟩ := HX.out.appended
              have HR1 := Lib.hid hR1
              have HR2 := Lib.hid hR2
              have HR3 := Lib.hid hR3
              clear hR1 hR2 hR3
              go_wp2_with (at_builtin; refine Kd.R_append KE (w0 := wc) 0 rfl (.tmp 45) (.tmp 50) 47 51 (.agg #[(.string ⟨#[]⟩), (.int .i64 0), (.int .i64 0)]) 32 rfl Try.underlying47 infoE rfl (by decide) (by omega) u8 (lows (d.take j) key) (pk, (pv, pu)) [.string pk, .int .i64 pv, .int .i64 pu] okr (fun _ => False) rfl rfl (KE_mkM _ _ _ pk pv pu) (fun _ hk => hk.elim) HR2.out HR1.out (Below.refl _ _) (Nat.zero_le _) (by omega) ?_; intro v5 w5 hR5 hB5 hg5 _)
              have HP5 := Lib.hid (HR3.out _ _ _ hR5 hg5)
              clear hR5 hB5 hg5
              refine ⟨⟨j + 1, by simp, by omega, ?_⟩, ?_⟩
              · rw [HLS2.out]; exact HP5.out
              · simp [intOf]
                omega
        · have hjn' : j = nd := by omega
          subst hjn'
          have htk : d.take j = d := List.take_of_length_le (by rw [HND.out]; exact Nat.le_refl _)
          rw [htk] at HP hll
          have b1 := blk_cell HP.out.tail.tail.blk0 1
          have b2 := blk_cell HP.out.tail.tail.blk0 2
          simp only [List.getElem?_toArray, List.getElem?_cons_succ, List.getElem?_cons_zero] at b1 b2
          obtain ⟨okr, hR1, hR2, hR3⟩ := HP.out.appended
          have HR1 := Lib.hid hR1
          have HR2 := Lib.hid hR2
          have HR3 := Lib.hid hR3
          clear hR1 hR2 hR3 htk
          go_wp2_with (at_builtin; refine Kd.R_append KE (w0 := wr) 0 rfl (.tmp 52) (.tmp 54) 47 51 (.agg #[(.string ⟨#[]⟩), (.int .i64 0), (.int .i64 0)]) 32 rfl Try.underlying47 infoE rfl (by decide) (by omega) u8 (lows d key) (key, (v, u)) [.string key, .int .i64 v, .int .i64 u] okr (fun _ => False) rfl rfl (KE_mkM _ _ _ key v u) (fun _ hk => hk.elim) HR2.out HR1.out (Below.refl _ _) (Nat.zero_le _) (by omega) ?_; intro v5 w5 hR5 hB5 hg5 _)
          have HP5 := Lib.hid (HR3.out _ _ _ hR5 hg5)
          clear hR5 hB5 hg5 b0 b1 b2
          have hl5 : (lows d key ++ [(key, (v, u))]).length ≤ 10001 := by rw [List.length_append, List.length_singleton]; omega
          generalize hs5 : lows d key ++ [(key, (v, u))] = s5 at *
          have HS5 := Lib.hid hs5
          clear hs5
          go_loopw [8, 10] (fun o i wq => ∃ j2 : Nat, i = .int .i64 j2 ∧ j2 ≤ j ∧ Hp w wq [AEn o (s5 ++ highs (d.take j2) key), AEn (.slice A3 j c3) d, ABlk w.heap.size (.cells #[.string key, .int .i64 v, .int .i64 u] 51)]) (fun _ i _ => j - (intOf i).toNat)
          case atStart => exact ⟨0, rfl, Nat.zero_le _, by rw [List.take_zero]; unfold highs; rw [List.filter_nil, List.append_nil]; exact HP5.out⟩
          case round =>
            obtain ⟨q, rfl, hq, hQ⟩ := hrel
            have HQ2 := Lib.hid hQ
            clear hQ
            have hll2 : (s5 ++ highs (d.take q) key).length ≤ 20001 := by
              rw [List.length_append]
              have := highs_len d q key
              have := HND.out
              omega
            have b0 := blk_cell HQ2.out.tail.tail.blk0 0
            simp only [List.getElem?_toArray, List.getElem?_cons_succ, List.getElem?_cons_zero] at b0
            by_cases hqn : q < j
            · obtain ⟨ad, pk, pv, pu, rfl, hx, d0, d1, d2⟩ := C_nth_ent (Kd.R_reads' HQ2.out.tail.head).2.2 q (by have := HND.out; omega)
              have i0 : (0 : Int) ≤ (q : Int) := by omega
              have i1 : (q : Int) < (j : Int) := by omega
              have HLS := Lib.hid (highs_step hx key)
              have HXX := Lib.hid hx
              clear hx
              go_wp2_with fail
              go_cut [69] (fun b wx => b = .bool (Op.bytesLess key.toList pk.toList) ∧ Hp w wx [AEn u8 (s5 ++ highs (d.take q) key), AEn (.slice (some ad) j c3) d, ABlk w.heap.size (.cells #[.string key, .int .i64 v, .int .i64 u] 51)])
              case first =>
                go_quiet (fail)
                go_wp2_with fail
                go_meet
                case rel => exact ⟨congrArg Value.bool (gtr_less pk key), HQ2.out.below (pw_below_drewN (Below.refl _ _) _)⟩
              case rest =>
                obtain ⟨rfl, hX⟩ := hcut
                have HX := Lib.hid hX
                obtain ⟨ad', pk', pv', pu', had, hx, e0, e1, e2⟩ := C_nth_ent (Kd.R_reads' hX.tail.head).2.2 q (by have := HND.out; omega)
                injection had with had
                subst had
                obtain ⟨rfl, rfl, rfl⟩ : pk = pk' ∧ pv = pv' ∧ pu = pu' := by
                  have := HXX.out.symm.trans hx
                  simpa using this
                clear hx hX d0 d1 d2 b0
                cases hb : Op.bytesLess key.toList pk.toList
                case' false =>
                  have HLS2 : Hid (highs (d.take (q + 1)) key = highs (d.take q) key) := Lib.hid (by have := HLS.out; simp only [hb] at this; simpa using this)
                  clear hb
                  go_wp2_with fail
                  refine ⟨⟨q + 1, by simp, by omega, ?_⟩, ?_⟩
                  · rw [HLS2.out]; exact HX.out
                  · simp [intOf]
                    omega
                case' true =>
                  have HLS2 : Hid (highs (d.take (q + 1)) key = highs (d.take q) key ++ [(pk, (pv, pu))]) := Lib.hid (by have := HLS.out; simp only [hb] at this; simpa using this)
                  clear hb
                  obtain ⟨okr, hR1, hR2, hR3⟩ := HX.out.appended
                  have HR1 := Lib.hid hR1
                  have HR2 := Lib.hid hR2
                  have HR3 := Lib.hid hR3
                  clear hR1 hR2 hR3
                  go_wp2_with (at_builtin; refine Kd.R_append KE (w0 := wc) 0 rfl (.tmp 70) (.tmp 75) 47 51 (.agg #[(.string ⟨#[]⟩), (.int .i64 0), (.int .i64 0)]) 32 rfl Try.underlying47 infoE rfl (by decide) (by omega) u8 (s5 ++ highs (d.take q) key) (pk, (pv, pu)) [.string pk, .int .i64 pv, .int .i64 pu] okr (fun _ => False) rfl rfl (KE_mkM _ _ _ pk pv pu) (fun _ hk => hk.elim) HR2.out HR1.out (Below.refl _ _) (Nat.zero_le _) (by omega) ?_; intro v6 w6 hR6 hB6 hg6 _)
                  have HP6 := Lib.hid (HR3.out _ _ _ hR6 hg6)
                  clear hR6 hB6 hg6
                  refine ⟨⟨q + 1, by simp, by omega, ?_⟩, ?_⟩
                  · rw [HLS2.out, ← List.append_assoc]; exact HP6.out
                  · simp [intOf]
                    omega
            · have hqn' : q = j := by omega
              subst hqn'
              have htk : d.take q = d := List.take_of_length_le (by rw [HND.out]; exact Nat.le_refl _)
              have HE : Hid (s5 ++ highs (d.take q) key = ldPut r key (v, u)) := Lib.hid (by rw [HLP.out, htk, ← HS5.out])
              rw [HE.out] at HQ2
              clear htk
              obtain ⟨Av, cv, rfl⟩ := Kd.R_slice HQ2.out.head
              go_wp2_with fail
              go_ret2
              exact ⟨fun _ => ⟨Av, cv, rfl, HQ2.out.head, HQ2.out.belowW⟩, fun h => absurd (HMP.out.symm.trans h) (by decide)⟩
end Go.Proofs.Ytehkhopkedbngaa
