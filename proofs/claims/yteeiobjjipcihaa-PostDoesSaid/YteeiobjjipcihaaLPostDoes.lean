/- The statement PostDoes of layer 17: every call of it tells true and leaves what was there as it was. -/
import Derived.Test.YteeiobjjipcihaaPostAwake
import Derived.Test.YteeiobjjipcihaaOpen
import Derived.Deep.RegionHeld3
import Derived.Deep.DeepCutAuto
import Derived.Deep.CutBlock
namespace Go.Proofs.Yteeiobjjipcihaa
open Go.RowKit Go.Proofs.YteeiobjjipcihaaW.PrintWords

/-- A call, as it lies in memory: Kind, K, L. -/
def KOp : Kd (Int × (Int × List Int)) := Kd.pair (Kd.int .i64) (Kd.pair (Kd.int .i64) (Kd.slice 3 (Kd.int .i64)))
theorem C_nth_op {w : World} {A : Option Addr} {n : Nat} {xs : List (Int × (Int × List Int))} (h : KOp.C w A n xs) (k : Nat) (hk : k < n) :
    ∃ ad kind K L A1 c1, A = some ad ∧ xs[k]? = some (kind, (K, L)) ∧ w.cell? (ad.add (k * 3)) = some (.int .i64 kind) ∧ w.cell? ⟨(ad.add (k * 3)).block, (ad.add (k * 3)).off + 1, none⟩ = some (.int .i64 K) ∧ w.cell? ⟨(ad.add (k * 3)).block, (ad.add (k * 3)).off + 2, none⟩ = some (.slice A1 L.length c1) ∧ L.length ≤ c1 ∧ (Kd.int .i64).C w A1 L.length L := by
  obtain ⟨ad, ⟨kind, K, L⟩, c, hA, hx, _, ⟨c0, c1', rfl, h0, ⟨c2, c3, rfl, h2, ⟨A1, cc, rfl, hl, hC⟩⟩⟩, h3⟩ := C_nth h k hk
  have h0' : c0 = [.int .i64 kind] := h0
  have h2' : c2 = [.int .i64 K] := h2
  subst h0' h2'
  refine ⟨ad, kind, K, L, A1, cc, hA, hx, ?_, ?_, ?_, hl, hC⟩
  · have := h3 0 _ rfl; exact this
  · have := h3 1 _ rfl; rw [← add_field ad _ 1 (by omega)]; exact this
  · have := h3 2 _ rfl; rw [← add_field ad _ 2 (by omega)]; exact this

theorem sendN_yes {room : Int} {n j : Nat} (h : ((n + sendN (max room 0) n j : Nat) : Int) < room) : sendN (max room 0) n j = j ∧ sendN (max room 0) n (j + 1) = j + 1 := by
  unfold sendN at *
  omega
theorem sendN_no {room : Int} {n j : Nat} (h : ¬ ((n + sendN (max room 0) n j : Nat) : Int) < room) : sendN (max room 0) n (j + 1) = sendN (max room 0) n j := by
  unfold sendN at *
  omega
theorem sendN_le (room : Int) (n j : Nat) : sendN room n j ≤ j := by
  unfold sendN
  omega
theorem take_one {α : Type} {xs : List α} {x : α} {j : Nat} (h : xs[j]? = some x) : xs.take (j + 1) = xs.take j ++ [x] := by
  rw [List.take_add_one, h]
  rfl

set_option maxHeartbeats 1600000 in
set_option maxRecDepth 100000 in
theorem does_law (room : Int) (A : Option Addr) (n cap : Nat) (ops : List (Int × (Int × List Int))) (w : World) (hroom : (Lit.int .i64 room).wf = true) (hC : KOp.C w A n ops) (hc : n ≤ cap)
    (_ho : ∀ x ∈ ops, (Lit.int .i64 x.1).wf = true ∧ (Lit.int .i64 x.2.1).wf = true ∧ ∀ y ∈ x.2.2, (Lit.int .i64 y).wf = true) :
    Calls Try.prog 7 #[.int .i64 room, .slice A n cap] w fun e w' => e = .returned (.bool true) ∧ Below w.heap.size w w' := by
  have HN := Lib.hid (Kd.C_len hC)
  have hm1 := Kd.C_max hC
  have hr := bounds_i64 hroom
  have hr0 : -9223372036854775808 ≤ room := by omega
  have hr1 : room ≤ 9223372036854775807 := by omega
  clear hr hroom
  by_cases h60 : 60 < n
  · go_enter Try.func7, Try.ntmps7
    go_wp2_with (go_at_call 8; refine Calls.mono (awake_any _) ?_; rintro e w1 ⟨rfl, hB⟩)
    go_ret
    exact ⟨rfl, hB⟩
  · go_enter Try.func7, Try.ntmps7
    go_wp2_with fail
    refine Calls.mono (new1_int room w _ (by omega) (Below.refl _ _)) ?_
    rintro e w1 ⟨rfl, hP1⟩
    go_wp2_with fail
    go_loopw [5, 6, 8, 9, 10, 11, 12, 13, 15, 16, 27] (fun p v _ _ _ _ _ _ _ _ i wr => ∃ (k pb : Nat) (r : List Int), k ≤ n ∧ i = .int .i64 k ∧ p = .pointer (some ⟨pb, 0, none⟩) ∧ P1 (Kd.int .i64) 3 52 w wr pb (max room 0) r ∧ (Kd.int .i64).R 3 wr w.heap.size (fun b => b ≠ pb) v r ∧ r.length ≤ 100 * k)
      (fun _ _ _ _ _ _ _ _ _ _ i _ => n - (intOf i).toNat)
    case atStart => exact ⟨0, _, [], Nat.zero_le _, rfl, rfl, hP1, Kd.R_nil _ _ _ _ _, Nat.zero_le _⟩
    case round =>
      clear hP1
      obtain ⟨k, pb, r, hk, rfl, rfl, hP, hR, hrl⟩ := hrel
      have hBr := hP.2
      by_cases hlt : k < n
      · obtain ⟨ad, kind, K, L, A1, c1, rfl, hx, hf0, hf1, hf2, hl1, hC1⟩ := C_nth_op (Kd.C_below hC hBr) k hlt
        have HX := Lib.hid hx
        have i0 : (0 : Int) ≤ (k : Int) := by omega
        have i1 : (k : Int) < (n : Int) := by omega
        have HP := Lib.hid hP
        obtain ⟨Ar, cr, rfl, hrc, hCr⟩ := Kd.R_reads hR
        have HR := Lib.hid hR
        clear hx hP hR
        go_upto_if 34 with fail
        have hbs := hBr.size
        obtain ⟨wb, hwb⟩ : ∃ wb, wb = wr.alloc (.cells #[.int .i64 kind, .int .i64 K, .slice A1 L.length c1] 46) := ⟨_, rfl⟩
        obtain ⟨ob, hob⟩ : ∃ ob, ob = wr.heap.size := ⟨_, rfl⟩
        have HPb := Lib.hid (show P1 (Kd.int .i64) 3 52 w wb pb (max room 0) r by rw [hwb]; exact HP.out.alloc _)
        have hpo : pb < ob := by rw [hob]; exact HP.out.1.lt
        have HRb := Lib.hid (show (Kd.int .i64).R 3 wb w.heap.size (fun b => b ≠ pb ∧ b < ob) (.slice Ar r.length cr) r by rw [hwb, hob]; exact Kd.R_alloc (Kd.R_mono (Kd.R_bound HR.out) (fun _ h => ⟨h.1, h.2.2.1⟩)) _)
        have HOb := Lib.hid (show wb.heap[ob]? = some (.cells #[.int .i64 kind, .int .i64 K, .slice A1 L.length c1] 46 (0, 0)) by rw [hwb, hob]; exact heap_alloc_new wr _)
        have hwo : w.heap.size ≤ ob := by omega
        rw [← hwb, ← hob]
        have o0 := blk_cell HOb.out 0
        have o1 := blk_cell HOb.out 1
        have o2 := blk_cell HOb.out 2
        simp only [List.getElem?_toArray, List.getElem?_cons_succ, List.getElem?_cons_zero] at o0 o1 o2
        have hL1 : L.length ≤ 9223372036854775807 := Kd.C_max hC1
        have HC1 := Lib.hid (show (Kd.int .i64).C wb A1 L.length L by rw [hwb]; exact Kd.C_alloc hC1 _)
        clear hwb hob hf0 hf1 hf2 HP HR hBr hbs hC1
        by_cases hL : 100 < L.length
        · go_wp2_with (go_at_call 8; refine Calls.mono (awake_any _) ?_; rintro e w2 ⟨rfl, hB⟩)
          go_ret
          exact ⟨rfl, below_then HPb.out.2 HPb.out.2.size hB⟩
        · have hrl1 : (r.length : Int) ≤ 6000 := by omega
          obtain ⟨m, b, hmb⟩ : ∃ m b, lookAt 0 r K = (m, b) := ⟨_, _, rfl⟩
          have HMB := Lib.hid hmb
          clear hmb
          go_upto_region 12 with fail
          go_cut [9] (fun s9 wx => s9 = .bool b ∧ wx = wb)
          case first =>
            by_cases hin : 0 ≤ K ∧ K < r.length
            · have hb : b = true := by have := HMB.out; unfold lookAt at this; rw [if_pos hin] at this; exact (Prod.mk.inj this).2.symm
              have hin1 : 0 ≤ K := hin.1
              have hin2 : K < (r.length : Int) := hin.2
              have HLK := Lib.hid hb
              clear hb hin
              go_wp2
              go_meet
              case rel => exact ⟨by rw [HLK.out], rfl⟩
            · have hb : b = false := by have := HMB.out; rw [lookAt_out hin] at this; exact (Prod.mk.inj this).2.symm
              have hin' : K < 0 ∨ (r.length : Int) ≤ K := by omega
              have HLK := Lib.hid hb
              clear hb hin
              rcases hin' with hin' | hin'
              all_goals
                go_wp2
                go_meet
                case rel => exact ⟨by rw [HLK.out] <;> simp <;> omega, rfl⟩
          case rest =>
            obtain ⟨rfl, rfl⟩ := hcut
            go_upto_if 46 with fail
            go_cut [10] (fun s10 wx => s10 = .int .i64 m ∧ wx = wc)
            case first =>
              by_cases hin : 0 ≤ K ∧ K < r.length
              · obtain ⟨j, rfl⟩ := Int.eq_ofNat_of_zero_le hin.1
                obtain ⟨ad2, x, rfl, hx2, hc2⟩ := C_nth_scalar (Kd.R_reads' HRb.out).2.2 j (by omega)
                have hlk := lookAt_in (z := (0 : Int)) hx2
                rw [HMB.out] at hlk
                obtain ⟨rfl, rfl⟩ := Prod.mk.inj hlk
                have hin1 : (0 : Int) ≤ (j : Int) := hin.1
                have hin2 : (j : Int) < (r.length : Int) := hin.2
                clear hlk hin hx2
                go_wp2
                go_meet
                case rel => exact ⟨rfl, rfl⟩
              · have hlk := HMB.out
                rw [lookAt_out hin] at hlk
                obtain ⟨rfl, rfl⟩ := Prod.mk.inj hlk
                clear hlk hin
                go_wp2
                go_meet
                case rel => exact ⟨rfl, rfl⟩
            case rest =>
              obtain ⟨rfl, rfl⟩ := hcut
              go_upto_block 2 with fail
              go_cut [5, 6, 11, 12] (fun p v s11 s12 wx => ∃ (pb : Nat) (r1 r2 : List Int) (A2 : Option Addr) (c2 : Nat), p = .pointer (some ⟨pb, 0, none⟩) ∧ v = .slice A2 r2.length c2 ∧ s11 = .int .i64 m ∧ s12 = .bool b ∧
                P1 (Kd.int .i64) 3 52 w wx pb (max room 0) r1 ∧ (Kd.int .i64).R 3 wx w.heap.size (fun b => b ≠ pb ∧ b ≠ ob) (.slice A2 r2.length c2) r2 ∧ r2.length ≤ 100 * k + 100 ∧
                wx.heap[ob]? = some (.cells #[.int .i64 kind, .int .i64 K, .slice A1 L.length c1] 46 (0, 0)) ∧ ob ≠ pb ∧ (b = true ∧ (kind = 1 ∨ kind = 3) → r2 = r ∧ r1 = takeOut r K) ∧ (¬ (b = true ∧ (kind = 1 ∨ kind = 3)) → r1 = r2))
              case first =>
                by_cases hk0 : kind = 0
                · subst hk0
                  have HN2 := Lib.hid (sendN_le (max room 0) r.length)
                  have HB2 := Lib.hid HPb.out.2
                  have hpb := HPb.out.1.lt
                  have hob := blk_lt HOb.out
                  go_wp2_with fail
                  go_loopw [6, 13, 15, 72] (fun v n _ i wx => ∃ (j c : Nat) (A2 : Option Addr) (c2 : Nat) (rj : List Int), j ≤ L.length ∧ i = .int .i64 j ∧ n = .int .i64 c ∧ c = sendN (max room 0) r.length j ∧ c ≤ j ∧ rj.length = r.length + c ∧ rj = r ++ L.take c ∧ v = .slice A2 rj.length c2 ∧
                    Below wc.heap.size wc wx ∧ (Kd.int .i64).R 3 wx w.heap.size (fun b => b ≠ pb ∧ b ≠ ob) (.slice A2 rj.length c2) rj) (fun _ _ _ i _ => L.length - (intOf i).toNat)
                  case atStart => exact ⟨0, 0, Ar, cr, r, Nat.zero_le _, rfl, rfl, by simp [sendN], Nat.le_refl _, rfl, by simp, rfl, Below.refl _ _, Kd.R_mono HRb.out (fun _ h => ⟨h.1, by omega⟩)⟩
                  case round =>
                    obtain ⟨j, c, A2, c2, rj, hj, rfl, rfl, hce, hcj, hrj, hre, rfl, hBx, hRx⟩ := hrel
                    have HCE := Lib.hid hce
                    have HRJ := Lib.hid hrj
                    have HRE := Lib.hid hre
                    have hrjl : (rj.length : Int) ≤ 6100 := by omega
                    have hbx := hBx.size
                    have x2 := cell_later hBx o2
                    clear hce hrj hre
                    by_cases hlt2 : j < L.length
                    · obtain ⟨ad3, x, rfl, hx3, hcx⟩ := C_nth_scalar (Kd.C_below HC1.out hBx) j hlt2
                      have HX3 := Lib.hid hx3
                      clear hx3
                      have i2 : (0 : Int) ≤ (j : Int) := by omega
                      have i3 : (j : Int) < (L.length : Int) := by omega
                      have HRX := Lib.hid (Kd.R_reads' hRx)
                      have HRX0 := Lib.hid hRx
                      have HBX := Lib.hid hBx
                      clear hRx hBx
                      by_cases hroom : (rj.length : Int) < room
                      · go_wp2_with (first | (at_builtin; refine Kd.R_append_rows (Kd.int .i64) (w0 := wc) wc.heap.size rfl (.tmp 80) (.tmp 81) 31 3 (.int .i64 0) 8 rfl Try.underlying31 info_int rfl (by decide) (by omega) (.slice (some ⟨wr.heap.size, 0, none⟩) 0 0) [] rj A2 rj.length c2 (fun b => b ≠ pb ∧ b ≠ ob) (fun _ => False) rfl rfl (R_empty _ _ _ _ _ hbx ⟨by omega, by omega⟩) (Kd.C_alloc HRX.out.2.2 _) (fun _ _ h => h) (fun _ h => h.elim) (fun b hb => by simp at hb; exact ⟨by omega, by omega⟩) (HBX.out.alloc hbx _) (by simp; omega) (by simp; omega) ?_; intro v3 w3 hR3 hB3 _ _) | (at_builtin; refine Kd.R_append (Kd.int .i64) (w0 := wc) wc.heap.size rfl (.tmp 82) (.tmp 84) 31 3 (.int .i64 0) 8 rfl Try.underlying31 info_int rfl (by decide) (by omega) v3 ([] ++ rj) x [.int .i64 x] (fun b => b ≠ pb ∧ b ≠ ob) (fun _ => False) rfl rfl rfl (fun _ h => h.elim) (fun b hb => by have := hB3.size; exact ⟨by omega, by omega⟩) hR3 hB3 hB3.size (by simp; omega) ?_; intro v4 w4 hR4 hB4 _ _))
                        obtain ⟨A4, c4, rfl⟩ := Kd.R_slice hR4
                        go_roundw
                        case rel =>
                          have hc0 : ((r.length + sendN (max room 0) r.length j : Nat) : Int) < room := by rw [← HCE.out, ← HRJ.out]; exact hroom
                          obtain ⟨y1, y2⟩ := sendN_yes hc0
                          have hcj2 : c = j := by rw [HCE.out]; exact y1
                          refine ⟨j + 1, c + 1, A4, c4, [] ++ rj ++ [x], by omega, by go_num, by go_num, by rw [hcj2]; exact y2.symm, by omega, by have := HRJ.out; simp; omega, ?_, rfl, hB4, Kd.R_lower hR4 (by have := HB2.out.size; omega)⟩
                          have hx4 := HX3.out
                          rw [← hcj2] at hx4
                          rw [List.nil_append, HRE.out, take_one hx4, List.append_assoc]
                        case measure => simp [intOf]; omega
                      · go_wp2
                        go_roundw
                        case rel =>
                          have hc0 : ¬ ((r.length + sendN (max room 0) r.length j : Nat) : Int) < room := by rw [← HCE.out, ← HRJ.out]; exact hroom
                          exact ⟨j + 1, c, A2, c2, rj, by omega, by go_num, rfl, by rw [sendN_no hc0]; exact HCE.out, by omega, HRJ.out, HRE.out, rfl, HBX.out, HRX0.out⟩
                        case measure => simp [intOf]; omega
                    · have hjl : j = L.length := by omega
                      subst hjl
                      have hP2 := HPb.out.below hBx
                      have HS := Lib.hid (send2_int hP2 (Kd.C_below HC1.out hBx) hl1 (by omega) (r := c) HCE.out)
                      have HBX := Lib.hid hBx
                      have HRX := Lib.hid hRx
                      have hcc : ((c : Int) != (c : Int)) = false := by simp
                      clear hP2 hBx hRx
                      go_wp2_with (go_at_call 14; refine Calls.mono HS.out ?_; rintro e w3 ⟨rfl, hP3, hK3⟩)
                      go_meet
                      case rel =>
                        have hB3 := HBX.out
                        refine ⟨pb, _, rj, A2, c2, rfl, rfl, rfl, rfl, hP3, Kd.R_step HRX.out (fun b hb hl => hK3.block b hl hb.1), by have := HRJ.out; omega, ?_, by omega, by omega, fun _ => HRE.out.symm⟩
                        rw [hK3.block ob (by have := hB3.size; omega) (by omega), hB3.block ob hob]
                        exact HOb.out
                · have hk0' : (kind == 0) = false := by simp [hk0]
                  have hpb := HPb.out.1.lt
                  have hob := blk_lt HOb.out
                  have HRS := Lib.hid (Kd.R_mono (Kd.R_bound HRb.out) (ok' := fun b => b ≠ pb ∧ b ≠ ob ∧ b < wc.heap.size) (fun b hb => ⟨hb.1.1, by have := hb.1.2; omega, hb.2.2.1⟩))
                  by_cases hk1 : kind = 1
                  · subst hk1
                    have HT := Lib.hid (take2_int HPb.out (by omega) HMB.out rfl)
                    go_wp2_with (go_at_call 16; refine Calls.mono HT.out ?_; rintro e w3 ⟨rfl, hP3, hK3⟩)
                    go_meet
                    case rel => exact ⟨pb, takeOut r K, r, Ar, cr, rfl, rfl, rfl, rfl, hP3, Kd.R_mono (Kd.R_step HRS.out (fun b hb hl => hK3.block b hl hb.1)) (fun _ h => ⟨h.1, h.2.1⟩), by omega, by rw [hK3.block ob hob (by omega)]; exact HOb.out, by omega, fun _ => ⟨rfl, rfl⟩, fun h => by
                      have hb : b = false := by cases b <;> simp_all
                      have h2 := HMB.out
                      rw [hb] at h2
                      refine takeOut_out (fun hin => ?_)
                      unfold lookAt at h2
                      rw [if_pos hin] at h2
                      exact absurd (Prod.mk.inj h2).2 (by decide)⟩
                  · have hk1' : (kind == 1) = false := by simp [hk1]
                    by_cases hk2 : kind = 2
                    · subst hk2
                      have hT := twice_int _ _ _ _ K _ HPb.out.1
                      rw [HMB.out] at hT
                      have HT := Lib.hid hT
                      clear hT
                      go_wp2_with (go_at_call 21; refine Calls.mono HT.out ?_; rintro e w3 ⟨rfl, rfl⟩)
                      go_meet
                      case rel => exact ⟨pb, r, r, Ar, cr, rfl, rfl, rfl, rfl, HPb.out, Kd.R_mono HRS.out (fun _ h => ⟨h.1, h.2.1⟩), by omega, HOb.out, by omega, fun h => by omega, fun _ => rfl⟩
                    · have hk2' : (kind == 2) = false := by simp [hk2]
                      by_cases hk3 : kind = 3
                      · subst hk3
                        have HT := Lib.hid (lose2_int HPb.out (by omega) (is := b) (by rw [HMB.out]) rfl)
                        go_wp2_with (go_at_call 20; refine Calls.mono HT.out ?_; rintro e w3 ⟨rfl, hP3, hK3⟩)
                        go_meet
                        case rel => exact ⟨pb, takeOut r K, r, Ar, cr, rfl, rfl, rfl, rfl, hP3, Kd.R_mono (Kd.R_step HRS.out (fun b hb hl => hK3.block b hl hb.1)) (fun _ h => ⟨h.1, h.2.1⟩), by omega, by rw [hK3.block ob hob (by omega)]; exact HOb.out, by omega, fun _ => ⟨rfl, rfl⟩, fun h => by
                          have hb : b = false := by cases b <;> simp_all
                          have h2 := HMB.out
                          rw [hb] at h2
                          refine takeOut_out (fun hin => ?_)
                          unfold lookAt at h2
                          rw [if_pos hin] at h2
                          exact absurd (Prod.mk.inj h2).2 (by decide)⟩
                      · have hk3' : (kind == 3) = false := by simp [hk3]
                        have HY := Lib.hid (copy_int _ _ _ _ _ HPb.out.1 (by omega))
                        go_wp2_with fail
                        refine Calls.mono HY.out ?_
                        rintro e w3 ⟨c, rfl, hQ3, hB3⟩
                        have hP3 := (HPb.out.1.mono (ok' := fun k => w.heap.size ≤ k ∧ k < wc.heap.size) (fun _ hk h => ⟨hk, h⟩)).step (w1 := w3) (fun k hk _ => hB3.block k hk.2)
                        have hcw := hQ3.ok
                        have b3 := hB3.size
                        have x2 := cell_later hB3 o2
                        have hBw3 := below_then HPb.out.2 HPb.out.2.size hB3
                        have hS := send_int pb _ _ r L A1 c1 w3 hP3 (Kd.C_below HC1.out hB3) hl1 (by omega)
                        have HS := Lib.hid hS
                        clear hS hP3
                        go_wp2_with fail
                        refine Calls.mono HS.out ?_
                        rintro e w4 ⟨rfl, hP4, hK4⟩
                        have hLo := lose_int pb _ _ _ 0 w4 hP4 (by simp; omega)
                        have HL := Lib.hid hLo
                        clear hLo hP4
                        go_wp2_with fail
                        refine Calls.mono HL.out ?_
                        rintro e w5 ⟨rfl, hP5, hK5⟩
                        have b4 := hK4.size
                        go_wp2
                        go_meet
                        case rel =>
                          have hblk : ∀ b, b ≠ pb → b < wc.heap.size → w5.heap[b]? = wc.heap[b]? := fun b h1 h2 => (hK5.block b (by omega) h1).trans ((hK4.block b (by omega) h1).trans (hB3.block b h2))
                          refine ⟨c, r, r, Ar, cr, rfl, rfl, rfl, rfl, ⟨((hQ3.kept hK4 (fun k hk _ => by omega)).kept hK5 (fun k hk _ => by omega)).mono (fun k hk _ => by have := HPb.out.2.size; omega), ?_⟩, Kd.R_mono (Kd.R_step HRS.out (fun b hb hl => hblk b hb.1 hl)) (fun b h => ⟨by have := h.2.2; omega, h.2.1⟩), by omega, ?_, by omega, fun h => by omega, fun _ => rfl⟩
                          · exact hK5.below (hK4.below hBw3 hBw3.size (fun k _ hk => by have := HPb.out.1.ok; omega)) (hK4.below hBw3 hBw3.size (fun k _ hk => by have := HPb.out.1.ok; omega)).size (fun k _ hk => by have := HPb.out.1.ok; omega)
                          · rw [hblk ob (by omega) hob]
                            exact HOb.out
              case rest =>
                obtain ⟨pb2, r1, r2, A2, c2, rfl, rfl, rfl, rfl, hP2, hR2, hr2l, ho2, hop2, hy, hno⟩ := hcut
                have hmm : (m != m) = false := by simp
                have hbb : (b != b) = false := by simp
                have q0 := blk_cell ho2 0
                have q1 := blk_cell ho2 1
                simp only [List.getElem?_toArray, List.getElem?_cons_succ, List.getElem?_cons_zero] at q0 q1
                have hob := blk_lt ho2
                have HP2 := Lib.hid hP2
                have HR2 := Lib.hid hR2
                have HY := Lib.hid hy
                have HNO := Lib.hid hno
                have HO2 := Lib.hid ho2
                clear hP2 hR2 hy hno ho2 o0 o1 o2
                obtain ⟨w9, hw9⟩ : ∃ w9, w9 = wc := ⟨_, rfl⟩
                rw [← hw9] at HP2 HR2 HO2 q0 q1 hob ⊢
                clear hw9
                obtain ⟨q, hqd⟩ : ∃ q, q = decide (b = true ∧ (kind = 1 ∨ kind = 3)) := ⟨_, rfl⟩
                have HQ := Lib.hid hqd
                clear hqd
                go_upto_region 43 with fail
                go_cut [137] (fun s wx => s = .bool q ∧ wx = w9)
                case first =>
                  cases b with
                  | false =>
                    go_wp2
                    go_meet
                    case rel => exact ⟨by rw [HQ.out]; simp, rfl⟩
                  | true =>
                    by_cases hk1 : kind = 1
                    · subst hk1
                      go_wp2
                      go_meet
                      case rel => exact ⟨by rw [HQ.out]; simp, rfl⟩
                    · have hk1' : (kind == 1) = false := by simp [hk1]
                      by_cases hk3 : kind = 3
                      · subst hk3
                        go_wp2
                        go_meet
                        case rel => exact ⟨by rw [HQ.out]; simp, rfl⟩
                      · have hk3' : (kind == 3) = false := by simp [hk3]
                        go_wp2
                        go_meet
                        case rel => exact ⟨by rw [HQ.out]; simp [hk1, hk3], rfl⟩
                case rest =>
                  obtain ⟨rfl, rfl⟩ := hcut
                  go_upto_if 137 with fail
                  obtain ⟨w10, hw10⟩ : ∃ w10, w10 = wc := ⟨_, rfl⟩
                  rw [← hw10] at HP2 HR2 HO2 q0 q1 hob ⊢
                  clear hw10
                  go_cut [6] (fun v wx => ∃ (A5 : Option Addr) (c5 : Nat), v = .slice A5 r1.length c5 ∧ P1 (Kd.int .i64) 3 52 w wx pb2 (max room 0) r1 ∧ (Kd.int .i64).R 3 wx w.heap.size (fun b => b ≠ pb2) (.slice A5 r1.length c5) r1 ∧ r1.length ≤ 100 * k + 100)
                  case first =>
                    cases q with
                    | false =>
                      have hq : ¬ (b = true ∧ (kind = 1 ∨ kind = 3)) := of_decide_eq_false HQ.out.symm
                      have hr := HNO.out hq
                      subst hr
                      clear hq
                      go_wp2
                      go_meet
                      case rel => exact ⟨A2, c2, rfl, HP2.out, Kd.R_mono HR2.out (fun _ h => h.1), hr2l⟩
                    | true =>
                      have hq : b = true ∧ (kind = 1 ∨ kind = 3) := of_decide_eq_true HQ.out.symm
                      obtain ⟨hr2e, hr1e⟩ := HY.out hq
                      have hin : 0 ≤ K ∧ K < r2.length := by
                        refine Decidable.byContradiction fun hn => ?_
                        have h2 := HMB.out
                        rw [← hr2e, lookAt_out hn, hq.1] at h2
                        exact absurd (Prod.mk.inj h2).2 (by decide)
                      rw [← hr2e] at hr1e
                      obtain ⟨j, rfl⟩ := Int.eq_ofNat_of_zero_le hin.1
                      have hj : j < r2.length := by omega
                      rw [takeOut_in hj] at hr1e
                      have hj1 : (j : Int) < (r2.length : Int) := hin.2
                      have hj0 : (0 : Int) ≤ (j : Int) := hin.1
                      have HR1 := Lib.hid hr1e
                      have hr1l : r1.length ≤ r2.length := by rw [hr1e]; simp; omega
                      obtain ⟨i0, hi, hz0, hz1, hz2⟩ := info_parts info_int
                      have hrd := Kd.R_reads' HR2.out
                      obtain ⟨hcut, hCt⟩ := take_row (P := Try.prog) 31 3 Try.underlying31 hi j (Nat.le_of_lt hj) hrd.2.1 hrd.2.2
                      obtain ⟨A7, hcut2, hCd⟩ := drop_row (d := Kd.int .i64) (P := Try.prog) 31 3 Try.underlying31 hi hz1 _ c2 (j + 1) r2 hj hrd.2.1 hrd.2.2
                      simp only [Int.natCast_add, Int.cast_ofNat_Int] at hcut2
                      have hwr : IntKind.i64.wrap ((j : Int) + 1) = (j : Int) + 1 := IntWalk.i64_in _ (by omega)
                      have hpw := HP2.out.1.lt
                      have HRD := Lib.hid hrd
                      clear hr1e hr2e hin hq hrd
                      go_wp2_with fail
                      go_region_held3 (fun w' => w'.cell? ⟨ob, 1, none⟩ = some (.int .i64 (j : Int))) (first | exact hS7 | go_keep | exact hS8) (first | (refine Kd.R_append_rows_step (Kd.int .i64) (w0 := w10) w10.heap.size (by rfl) (.tmp 138) (.tmp 142) 31 3 (.int .i64 0) 8 rfl Try.underlying31 info_int rfl (by decide) (by omega) (.slice (some ⟨w10.heap.size, 0, none⟩) 0 0) [] (r2.take j) A2 j c2 (fun b => b ≠ pb2) (fun _ => False) rfl rfl (by exact R_empty _ _ _ _ _ (Nat.le_refl _) (by simp; omega)) (by exact Kd.C_alloc (Kd.C_drew hCt) _) (fun _ _ h => h) (fun _ h => h.elim) (fun b hb => by simp at hb; omega) (by exact (Below.refl _ _).drew.alloc (Nat.le_refl _) _) (by simp) (by simp; omega) ?_; intro v7 w7 hR7 hB7 hg7 hat7; have hS7 : w7.cell? ⟨ob, 1, none⟩ = some (.int .i64 (j : Int)) := cell_later hB7 q1) | (refine Kd.R_append_rows_step (Kd.int .i64) (w0 := w10) w10.heap.size (by rfl) (.tmp 143) (.tmp 148) 31 3 (.int .i64 0) 8 rfl Try.underlying31 info_int rfl (by decide) (by omega) v7 ([] ++ r2.take j) (r2.drop (j + 1)) A7 (r2.length - (j + 1)) (c2 - (j + 1)) (fun b => b ≠ pb2) (fun _ => False) rfl rfl hR7 (by exact Kd.C_below hCd hB7) (fun _ _ h => h) (fun _ h => h.elim) (fun b hb => by have := hB7.size; omega) hB7 hB7.size (by simp; omega) ?_; intro v8 w8 hR8 hB8 hg8 hat8; rw [← show r1 = [] ++ r2.take j ++ r2.drop (j + 1) from by rw [HR1.out]; simp] at hR8; have hS8 : w8.cell? ⟨ob, 1, none⟩ = some (.int .i64 (j : Int)) := cell_later hB8 q1; obtain ⟨A8, c8, hv8⟩ := Kd.R_slice hR8; subst hv8))
                      go_wp2
                      go_meet
                      case rel => exact ⟨A8, c8, rfl, HP2.out.below hB8, Kd.R_lower hR8 HP2.out.2.size, by omega⟩
                  case rest =>
                    obtain ⟨A5, c5, rfl, hP5, hR5, hr1l⟩ := hcut
                    have HA := Lib.hid (all2_int hP5 (by omega))
                    have HR5 := Lib.hid hR5
                    have hrl5 : (r1.length : Int) ≤ 7000 := by omega
                    have hll : ((r1.length : Int) != (r1.length : Int)) = false := by simp
                    clear hP5 hR5
                    go_wp2_with (first | (go_at_call 17; refine Calls.mono HA.out ?_; rintro e w11 ⟨A11, c11, rfl, hC11, hc11, hP11, hB11⟩) | (go_at_call 18; refine Calls.mono (same_yes _ _ _ _ _ _ r1 r1 _ hC11 (Kd.C_below (Kd.R_reads' HR5.out).2.2 hB11) rfl) ?_; rintro e w12 ⟨rfl, hB12⟩) | (go_at_call 19; refine Calls.mono (len_int _ _ _ _ _ (hP11.below hB12).1) ?_; rintro e w13 ⟨rfl, rfl⟩))
                    go_roundw
                    case rel => exact ⟨k + 1, pb2, r1, by omega, by go_num, rfl, hP11.below hB12, Kd.R_below (Kd.R_below HR5.out hB11) hB12, by omega⟩
                    case measure => simp [intOf]; omega
      · have hk' : k = n := by omega
        subst hk'
        clear hP hR
        go_wp2_with (go_at_call 8; refine Calls.mono (awake_any _) ?_; rintro e w2 ⟨rfl, hB⟩)
        go_ret
        exact ⟨rfl, below_then hBr hBr.size hB⟩

theorem opens_op : Opens Try.prog 46 KOp (fun x => (Lit.int .i64 x.1).wf = true ∧ ((Lit.int .i64 x.2.1).wf = true ∧ ∀ y ∈ x.2.2, (Lit.int .i64 y).wf = true)) :=
  opens_struct Try.underlying46 (by kernel_rfl) (Fields.cons (opens_int Try.underlying3 (by kernel_rfl)) rfl (Fields.cons (opens_int Try.underlying3 (by kernel_rfl)) rfl (Fields.last (opens_slice Try.underlying31 (by kernel_rfl) (opens_int Try.underlying3 (by kernel_rfl))) rfl) rfl) rfl)

end Go.Proofs.Yteeiobjjipcihaa
