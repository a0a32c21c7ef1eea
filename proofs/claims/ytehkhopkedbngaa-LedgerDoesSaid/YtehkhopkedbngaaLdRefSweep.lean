/- The document's Sweep. -/
import Derived.Test.YtehkhopkedbngaaLdRef
import Derived.Test.YtehkhopkedbngaaLdBest
import Derived.Deep.DeepCutAuto
namespace Go.Proofs.Ytehkhopkedbngaa
open Go.RowKit Go.Proofs.YtehkhopkedbngaaW.PrintWords
set_option linter.unusedSimpArgs false

def lenOf : Value → Nat
  | .slice _ n _ => n
  | _ => 0

set_option maxHeartbeats 1600000 in
set_option maxRecDepth 100000 in
theorem Hp.refSweep {w0 w : World} {A : Option Addr} {n cap : Nat} {r : List (Ent Int)} {Ps : List Asn} (h : Hp w0 w (AEn (.slice A n cap) r :: Ps)) (hr : Rising r) (hn : n ≤ 10000) (now : Int) :
    Calls Try.prog 26 #[.slice A n cap, .int .i64 now] w fun e w' => ∃ A1 c1 A2 c2, e = .returned (.tuple #[.slice A1 (left r now).length c1, .slice A2 (past r now).length c2]) ∧
      Hp w0 w' (AStr (.slice A2 (past r now).length c2) ((past r now).map (·.1)) :: AEn (.slice A1 (left r now).length c1) (left r now) :: Ps) := by
  have HH := Lib.hid h
  have HR := Lib.hid hr
  have hnr : n = r.length := (Kd.R_reads' h.head).1
  have HN := Lib.hid hnr
  clear h hr hnr
  go_enter Try.func26, Try.ntmps26
  go_wp2_with fail
  go_loopw [0, 6] (fun v0 v6 wr => ∃ (l : List (Ent Int)) (ks : List ByteArray) (A1 : Option Addr) (m c1 : Nat), v0 = .slice A1 m c1 ∧ m ≤ 10000 ∧ Hid (m = l.length) ∧ Hid (Rising l) ∧ ks.length ≤ 10000 - m ∧ Hid (ks ++ (past l now).map (·.1) = (past r now).map (·.1)) ∧ Hid (left l now = left r now) ∧ Hp w0 wr (AStr v6 ks :: AEn (.slice A1 m c1) l :: Ps)) (fun v0 _ _ => lenOf v0)
  case atStart => exact ⟨r, [], A, n, cap, rfl, hn, HN, HR, by simp, Lib.hid rfl, Lib.hid rfl, HH.out.fresh (Below.refl _ _) (Kd.R_nil _ _ _ _ _)⟩
  case round =>
    obtain ⟨l, ks, A1, m, c1, rfl, hm, HM, HRL, hks, HKS, HLF, hP⟩ := hrel
    have HP := Lib.hid hP
    clear hP
    go_wp2_with fail
    go_loopw [7, 8] (fun a i wq => ∃ (j : Nat) (av : Int), i = .int .i64 j ∧ a = .int .i64 av ∧ j ≤ m ∧ Hid (Best l now j av) ∧ av < 10000 ∧ -1 ≤ av ∧ Hp w0 wq (AStr u6 ks :: AEn (.slice A1 m c1) l :: Ps)) (fun _ i _ => m - (intOf i).toNat)
    case atStart => exact ⟨0, -1, rfl, rfl, Nat.zero_le _, Lib.hid Best.start, by omega, by omega, HP.out⟩
    case round =>
      obtain ⟨j, av, rfl, rfl, hj, HB, hav1, hav2, hQ⟩ := hrel
      have HQ := Lib.hid hQ
      clear hQ
      by_cases hjm : j < m
      · obtain ⟨ad, pk, pv, pu, rfl, hx, d0, d1, d2⟩ := C_nth_ent (Kd.R_reads' HQ.out.tail.head).2.2 j (by have := HM.out; omega)
        have i0 : (0 : Int) ≤ (j : Int) := by omega
        have i1 : (j : Int) < (m : Int) := by omega
        have HX := Lib.hid hx
        clear hx
        go_wp2_with fail
        go_cut [38] (fun b wx => ∃ bb : Bool, b = .bool bb ∧ Hid (Best l now (j + 1) (if bb then (j : Int) else av)) ∧ Hp w0 wx (AStr u6 ks :: AEn (.slice (some ad) m c1) l :: Ps))
        case first =>
          by_cases hpn : pu ≤ now
          · by_cases ha : av < 0
            · have HBN := Lib.hid (HB.out.first HX.out hpn ha)
              go_quiet (fail)
              go_wp2_with fail
              go_meet
              case rel => exact ⟨true, rfl, HBN, HQ.out.below (pw_below_drewN (Below.refl _ _) _)⟩
            · obtain ⟨q, x, rfl, hqj, hqx⟩ := HB.out.at_ ha
              obtain ⟨ad2, qk, qv, qu, had, hy, f0, f1, f2⟩ := C_nth_ent (Kd.R_reads' HQ.out.tail.head).2.2 q (by have := HM.out; omega)
              injection had with had
              subst had
              obtain rfl : (qk, (qv, qu)) = x := Option.some.inj (hy.symm.trans hqx)
              have k0 : (0 : Int) ≤ (q : Int) := by omega
              have k1 : (q : Int) < (m : Int) := by omega
              by_cases hlt : pu < qu
              · have HBN := Lib.hid (HB.out.less HX.out hpn rfl hqx hlt)
                clear hy hqx
                go_quiet (fail)
                go_wp2_with fail
                go_meet
                case rel => exact ⟨true, rfl, HBN, HQ.out.below (pw_below_drewN (Below.refl _ _) _)⟩
              · have HBN := Lib.hid (HB.out.keep HX.out rfl hqx hlt)
                clear hy hqx
                go_quiet (fail)
                go_wp2_with fail
                go_meet
                case rel => exact ⟨false, rfl, HBN, HQ.out.below (pw_below_drewN (Below.refl _ _) _)⟩
          · have HBN := Lib.hid (HB.out.skip HX.out hpn)
            go_quiet (fail)
            go_wp2_with fail
            go_meet
            case rel => exact ⟨false, rfl, HBN, HQ.out.below (pw_below_drewN (Below.refl _ _) _)⟩
        case rest =>
          obtain ⟨bb, rfl, HBN, hX⟩ := hcut
          have HX2 := Lib.hid hX
          clear hX d0 d1 d2
          cases bb
          case' false =>
            go_wp2_with fail
            refine ⟨⟨j + 1, av, by simp, rfl, by omega, HBN, by omega, by omega, HX2.out⟩, ?_⟩
            simp [intOf]
            omega
          case' true =>
            go_wp2_with fail
            refine ⟨⟨j + 1, j, by simp, rfl, by omega, HBN, by omega, by omega, HX2.out⟩, ?_⟩
            simp [intOf]
            omega
      · have hjm' : j = m := by omega
        subst hjm'
        have hbest := HB.out
        rw [HM.out] at hbest
        by_cases ha : av < 0
        · obtain ⟨h1, h2⟩ := hbest.none ha
          have HE1 : Hid (ks = (past r now).map (·.1)) := Lib.hid (by rw [← HKS.out, h1]; simp)
          have HE2 : Hid (l = left r now) := Lib.hid (by rw [← HLF.out, h2])
          clear h1 h2 hbest
          obtain ⟨Av, cv, rfl⟩ := Kd.R_slice HQ.out.head
          go_wp2_with fail
          go_ret2
          have hQ := HQ.out
          have e1 : ks.length = (past r now).length := by rw [HE1.out, List.length_map]
          have e2 : j = (left r now).length := by rw [← HE2.out]; exact HM.out
          rw [← e1, ← e2, ← HE1.out, ← HE2.out]
          exact ⟨A1, c1, Av, cv, rfl, hQ⟩
        · obtain ⟨q, ⟨pk, pv, pu⟩, rfl, hqj, hqx⟩ := hbest.at_ ha
          obtain ⟨h1, h2⟩ := hbest.some HRL.out rfl hqx
          have h1 : past l now = (pk, (pv, pu)) :: past (mdel l pk) now := h1
          have h2 : left (mdel l pk) now = left l now := h2
          have hqm : q < j := by have := HM.out; omega
          have hml : (mdel l pk).length + 1 = l.length := by
            have hk := mdel_length HRL.out.keys pk
            have hg := mget_mem HRL.out.keys (List.mem_of_getElem? hqx)
            have hg : mget l pk = some (pv, pu) := hg
            rw [hg] at hk
            simpa using hk
          obtain ⟨m2, hm2⟩ : ∃ m2, m2 = (mdel l pk).length := ⟨_, rfl⟩
          have hm2j : m2 + 1 = j := by have := HM.out; omega
          have HM2 : Hid (m2 = (mdel l pk).length) := Lib.hid hm2
          have HRL2 : Hid (Rising (mdel l pk)) := Lib.hid (HRL.out.filter _)
          have HKS2 : Hid ((ks ++ [pk]) ++ (past (mdel l pk) now).map (·.1) = (past r now).map (·.1)) := Lib.hid (by rw [← HKS.out, h1]; simp)
          have HLF2 : Hid (left (mdel l pk) now = left r now) := Lib.hid (by rw [h2, HLF.out])
          obtain ⟨ad, qk, qv, qu, rfl, hy, d0, d1, d2⟩ := C_nth_ent (Kd.R_reads' HQ.out.tail.head).2.2 q (by have := HM.out; omega)
          obtain ⟨rfl, rfl, rfl⟩ : pk = qk ∧ pv = qv ∧ pu = qu := by
            have := hqx.symm.trans hy
            simpa using this
          have HY := Lib.hid hy
          have k0 : (0 : Int) ≤ (q : Int) := by omega
          have k1 : (q : Int) < (j : Int) := by omega
          have hmax := Kd.C_max (Kd.R_reads' HQ.out.tail.head).2.2
          clear hy hqx h1 h2 hbest hml hm2
          obtain ⟨okr, hR1, hR2, hR3⟩ := HQ.out.appended
          have HR1 := Lib.hid hR1
          have HR2 := Lib.hid hR2
          have HR3 := Lib.hid hR3
          clear hR1 hR2 hR3
          go_wp2_with (at_builtin; refine Kd.R_append Kd.string (w0 := wr) 0 rfl (.tmp 44) (.tmp 50) 43 9 (.string ⟨#[]⟩) 16 rfl Try.underlying43 infoStr rfl (by decide) (by omega) u6 ks pk [.string pk] okr (fun _ => False) rfl rfl rfl (fun _ hk => hk.elim) HR2.out HR1.out (Below.refl _ _) (Nat.zero_le _) (by omega) ?_; intro v5 w5 hR5 hB5 hg5 _; have HP5 := Lib.hid (HR3.out _ _ _ hR5 hg5); clear hR5 hB5 hg5 d0 d1 d2; obtain ⟨ad', qk, qv, qu, had, hy, d0, d1, d2⟩ := C_nth_ent (Kd.R_reads' HP5.out.tail.head).2.2 q (by have := HM.out; omega); injection had with had; subst had; obtain ⟨rfl, rfl, rfl⟩ : pk = qk ∧ pv = qv ∧ pu = qu := (by have := HY.out.symm.trans hy; simpa using this); clear hy)
          refine Calls.mono (refDrop_any (some ad) j c1 l pk w5 (by rw [HM.out]; exact (Kd.R_reads' HP5.out.tail.head).2.2) (by omega)) ?_
          rintro e w6 ⟨A6, c6, rfl, hR6, hB6⟩
          rw [← HM2.out] at hR6 ⊢
          have hP6 : Hp w0 w6 (AEn (.slice A6 m2 c6) (mdel l pk) :: AStr v5 (ks ++ [pk]) :: AEn (.slice (some ad) j c1) l :: Ps) := HP5.out.fresh hB6 hR6
          have HP6 := Lib.hid hP6.drop2.swap
          clear hR6 hB6 hP6 d0 d1 d2
          go_wp2_with fail
          refine ⟨⟨mdel l pk, ks ++ [pk], A6, m2, c6, rfl, by omega, HM2, HRL2, by rw [List.length_append, List.length_singleton]; omega, HKS2, HLF2, HP6.out⟩, ?_⟩
          simp [lenOf]
          omega
end Go.Proofs.Ytehkhopkedbngaa
