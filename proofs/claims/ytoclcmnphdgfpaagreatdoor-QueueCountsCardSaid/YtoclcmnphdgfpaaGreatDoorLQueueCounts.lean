/- The statement QueueCounts of layer 8: every call of it tells true and leaves what was there as it was. -/
import Derived.Test.YtoclcmnphdgfpaaGreatDoorG14
import Derived.Test.YtoclcmnphdgfpaaGreatDoorG13
import Derived.Test.YtoclcmnphdgfpaaGreatDoorQuLoad
import Derived.Deep.CutBlock
set_option linter.unusedVariables false
set_option linter.unusedSimpArgs false
namespace Go.Proofs.YtoclcmnphdgfpaaGreatDoor
open Go.RowKit Go.Maps Go.Proofs.YtoclcmnphdgfpaaGreatDoorW.PrintWords Go.Proofs.YtoclcmnphdgfpaaGreatDoorW.PrintLast
section
variable {σ : Qs} {T : Nat} {ws : List (Int × Int)} {rem : List Int}
/-- One that is to be counted next. -/
theorem CPart.next (h : CPart σ ws rem) {k : Nat} {id : Int} (hk : rem[k]? = some id) : (0 < id ∧ id < σ.next) := (h.mem id).1 (.inr (.inl (List.mem_of_getElem? hk)))
theorem CPart.zero {id : Int} (h : CPart σ ws (id :: rem)) : (mget ws id).getD 0 = 0 := by rw [h.unseen]; rfl
theorem drop_at {α : Type} {l : List α} {q : Nat} {x : α} (h : l[q]? = some x) : l.drop q = x :: l.drop (q + 1) := by
  obtain ⟨hq, rfl⟩ := List.getElem?_eq_some_iff.1 h
  exact List.drop_eq_getElem_cons hq
theorem few_len100 {l : List Int} (h2 : l.Nodup) (hb : ∀ x ∈ l, 0 ≤ x ∧ x < 100) : l.length ≤ 100 := by
  have hr : ((List.range 100).map (fun i => ((i : Nat) : Int))).Nodup := by
    rw [List.nodup_iff_pairwise_ne, List.pairwise_map]
    exact List.nodup_range.imp (fun h e => h (by omega))
  have hp : l.Perm (((List.range 100).map (fun i => ((i : Nat) : Int))).filter (fun x => decide (x ∈ l))) := by
    rw [List.perm_ext_iff_of_nodup h2 (hr.filter _)]
    intro x
    rw [List.mem_filter, decide_eq_true_iff]
    constructor
    · intro hx
      have := hb x hx
      exact ⟨List.mem_map.2 ⟨x.toNat, List.mem_range.2 (by omega), by omega⟩, hx⟩
    · exact fun hx => hx.2
  have h5 := hp.length_eq
  have h6 := List.length_filter_le (fun x => decide (x ∈ l)) ((List.range 100).map (fun i => ((i : Nat) : Int)))
  have h7 : ((List.range 100).map (fun i => ((i : Nat) : Int))).length = 100 := by rw [List.length_map, List.length_range]
  omega
theorem CPart.wlen (h : CPart σ ws rem) (hn : σ.next ≤ 100) : ws.length < maxLen := by
  have h1 := h.nd
  rw [List.nodup_append] at h1
  have h3 := few_len100 (List.nodup_append.1 h1.2.1).2.1 (fun x hx => by have := (h.mem x).1 (.inr (.inr hx)); omega)
  rw [List.length_map] at h3
  simp [maxLen]
  omega
theorem CPart.rlen (h : CPart σ ws rem) (hn : σ.next ≤ 100) : rem.length ≤ 100 := by
  have h1 := h.nd
  rw [List.nodup_append] at h1
  exact few_len100 (List.nodup_append.1 h1.2.1).1 (fun x hx => by have := (h.mem x).1 (.inr (.inl hx)); omega)
end
set_option maxHeartbeats 1600000 in
set_option maxRecDepth 100000 in
theorem counts_at (a : QA) (A : Option Addr) (n cap : Nat) (xs : List QOp) (w : World) (hC : KQOp.C w A n xs) (hok : ∀ x ∈ xs, opWf x) :
    Calls Tryz.prog 8 #[a.val, .slice A n cap] w fun e w' => e = .returned (.bool true) ∧ Below w.heap.size w w' := by
  obtain ⟨av, ar, ad, ai, am, az, af⟩ := a
  rw [QA.mk_val]
  have HNW := Lib.hid (fun (w1 : World) (Ps : List Asn) (h : Hp w w1 Ps) => h.quNew ⟨av, ar, ad, ai, am, az, af⟩)
  have HLA := Lib.hid (fun w1 : World => lawAttr_any ⟨av, ar, ad, ai, am, az, af⟩ w1)
  have HRN := Lib.hid (fun w1 : World => refNew_any ⟨av, ar, ad, ai, am, az, af⟩ w1)
  rw [QA.mk_val] at HNW HLA HRN
  have HC := Lib.hid hC
  have HOK := Lib.hid hok
  have HLX := Lib.hid (show n = xs.length from (Kd.C_len hC).symm)
  have HFW := Lib.hid (fun (w1 : World) (h : Below w.heap.size w w1) => few_any A n cap xs w1 (Kd.C_below hC h) (Kd.C_len hC) hok)
  obtain ⟨fw, hfw⟩ : ∃ fw, fw = fewB xs := ⟨_, rfl⟩
  rw [← hfw] at HFW
  have HFB := Lib.hid hfw
  obtain ⟨r, hr⟩ : ∃ r, r = qRight ⟨av, ar, ad, ai, am, az, af⟩ := ⟨_, rfl⟩
  rw [← hr] at HNW
  have HR := Lib.hid hr
  have HR0 := Lib.hid (show Qs.val (qNew ⟨av, ar, ad, ai, am, az, af⟩) (.slice none 0 0) (.slice none 0 0) = .agg #[.int .i64 av, .int .i64 ar, .int .i64 ad, .int .i64 ai, .int .i64 am, .string az, .bool af, .int .i64 0, .int .i64 1, .slice none 0 0, .slice none 0 0] from rfl)
  clear hC hok hfw hr
  have hmm := @run_makeMap Tryz.prog
  have HA := Lib.hid ((Hp.nil w).alloc (.cells #[.int .i64 av, .int .i64 ar, .int .i64 ad, .int .i64 ai, .int .i64 am, .string az, .bool af] 23))
  obtain ⟨c0, c1, c2, c3, c4, c5, c6⟩ := box7 HA.out.blk0
  go_enter Tryz.func8, Tryz.ntmps8
  go_wp2_with fail
  refine Calls.mono (HNW.out _ _ HA.out) ?_
  clear c0 c1 c2 c3 c4 c5 c6
  cases r
  case false =>
    rintro e w2 ⟨h1, _⟩
    obtain ⟨rfl, hP⟩ := h1 rfl
    have HP2 := Lib.hid hP
    clear hP h1
    go_wp2_with (go_at_call 13; refine Calls.mono (awake_any _) ?_; rintro e wz ⟨rfl, hB⟩)
    go_ret
    exact ⟨rfl, HP2.out.belowW.trans (hB.mono HP2.out.belowW.size)⟩
  case true =>
  rintro e w2 ⟨_, h2⟩
  obtain ⟨qb, rfl, hP⟩ := h2 rfl
  have HP2 := Lib.hid hP
  clear hP h2
  go_wp2_with fail
  refine Calls.mono (HFW.out w2 HP2.out.belowW) ?_
  rintro e w3 ⟨rfl, hB⟩
  have HP3 := Lib.hid (HP2.out.below hB)
  clear hB
  cases fw
  case false =>
    go_wp2_with (go_at_call 13; refine Calls.mono (awake_any _) ?_; rintro e wz ⟨rfl, hB⟩)
    go_ret
    exact ⟨rfl, HP3.out.belowW.trans (hB.mono HP3.out.belowW.size)⟩
  have hn60 : n ≤ 60 := by rw [HLX.out]; exact few_len HFB.out.symm
  have hg1 : Hp w (w3.alloc (.map #[] 0)) (AMap KI (Value.int .i64) w3.heap.size [] :: AQu qb (qNew ⟨av, ar, ad, ai, am, az, af⟩) 0 :: ABlk w.heap.size (.cells #[.int .i64 av, .int .i64 ar, .int .i64 ad, .int .i64 ai, .int .i64 am, .string az, .bool af] 23) :: []) := (HP3.out.alloc (.map #[] 0)).asAMap
  obtain ⟨wm, hwm⟩ : ∃ g, g = w3.heap.size := ⟨_, rfl⟩
  rw [← hwm] at hg1
  have HM0 := Lib.hid hg1.down2
  have HGM := Lib.hid hwm
  clear hg1 hwm
  go_wp2_with fail
  rw [← HGM.out]
  generalize w3.alloc (.map #[] 0) = W3 at *
  clear hmm
  go_loopw [7, 41] (fun sv i wr => ∃ (j : Nat) (σ : Qs) (ws : List (Int × Int)), i = .int .i64 j ∧ j ≤ n ∧ sv = .int .i64 (σ.next - 1) ∧ Hid (QInv σ j) ∧ Hid (CPart σ ws []) ∧ Hp w wr (AQu qb σ j :: ABlk w.heap.size (.cells #[.int .i64 av, .int .i64 ar, .int .i64 ad, .int .i64 ai, .int .i64 am, .string az, .bool af] 23) :: AMap KI (Value.int .i64) wm ws :: [])) (fun _ i _ => n - (intOf i).toNat)
  case atStart => exact ⟨0, qNew ⟨av, ar, ad, ai, am, az, af⟩, [], rfl, Nat.zero_le _, rfl, Lib.hid (QInv.new HR.out.symm), Lib.hid (CPart.new _), HM0.out⟩
  case round =>
    obtain ⟨j, σ, ws, rfl, hj, rfl, hI, hF, hQ⟩ := hrel
    have HQ := Lib.hid hQ
    clear hQ
    by_cases hjn : j < n
    case neg =>
      have hj' : j = n := by omega
      subst hj'
      go_wp2_with (go_at_call 13; refine Calls.mono (awake_any _) ?_; rintro e wz ⟨rfl, hB⟩)
      go_ret
      exact ⟨rfl, HQ.out.belowW.trans (hB.mono HQ.out.belowW.size)⟩
    have i0 : (0 : Int) ≤ (j : Int) := by omega
    have i1 : (j : Int) < (n : Int) := by omega
    obtain ⟨oa, kind, num, num2, body, group, key, rec, qa, rfl, hgs, hks, e0, e1, e2, e3, e4, e5, e6, e7, e8, e9, e10, e11, e12, e13⟩ := C_nth_call (Kd.C_below HC.out HQ.out.belowW) HOK.out j hjn
    have HA := Lib.hid (HQ.out.alloc (.cells #[.int .i64 kind, .int .i64 num, .int .i64 num2, .string body, .string group, .string key, .string rec, .int .i64 qa.vis, .int .i64 qa.ret, .int .i64 qa.del, .int .i64 qa.win, .int .i64 qa.max, .string qa.dead, .bool qa.fifo] 52))
    obtain ⟨ob, hob⟩ : ∃ ob, ob = wr.heap.size := ⟨_, rfl⟩
    go_upto_region 9 with (fail)
    rw [← hob] at HA ⊢
    clear hob e0 e1 e2 e3 e4 e5 e6 e7 e8 e9 e10 e11 e12 e13
    generalize wr.alloc (.cells #[.int .i64 kind, .int .i64 num, .int .i64 num2, .string body, .string group, .string key, .string rec, .int .i64 qa.vis, .int .i64 qa.ret, .int .i64 qa.del, .int .i64 qa.win, .int .i64 qa.max, .string qa.dead, .bool qa.fifo] 52) = W at *
    obtain ⟨o0, o1, o2, o3, o4, o5, o6, o7, o8, o9, o10, o11, o12, o13⟩ := blk14 HA.out.blk0
    have hnx0 := hI.out.nxt
    go_upto_block 2 with (fail)
    go_cut [7] (fun sv wx => ∃ (σ2 : Qs) (ws2 : List (Int × Int)), sv = .int .i64 (σ2.next - 1) ∧ Hid (QInv σ2 (j + 1)) ∧ Hid (CPart σ2 ws2 []) ∧ Hp w wx (AQu qb σ2 (j + 1) :: ABlk w.heap.size (.cells #[.int .i64 av, .int .i64 ar, .int .i64 ad, .int .i64 ai, .int .i64 am, .string az, .bool af] 23) :: AMap KI (Value.int .i64) wm ws2 :: []))
    case first =>
      by_cases h0 : kind = 0
      case pos =>
        have he0 : (kind == 0) = true := by simpa using h0
        clear h0
        obtain ⟨dl, hdl⟩ : ∃ d, d = (qTck σ num).2.1 := ⟨_, rfl⟩
        obtain ⟨gl, hgl⟩ : ∃ d, d = (qTck σ num).2.2 := ⟨_, rfl⟩
        obtain ⟨σ1, hσ1⟩ : ∃ s, s = (qTck σ num).1 := ⟨_, rfl⟩
        have hcp := hF.out.tck num
        have hi1 := hI.out.tck num
        have hx1 := (sub_tck (σ := σ) num).nxt
        rw [← hdl, ← hgl, ← hσ1] at hcp
        rw [← hσ1] at hi1 hx1
        have HCP := Lib.hid hcp
        have HI1 := Lib.hid (hi1.mono (Nat.le_succ j))
        have HX1 := Lib.hid hx1
        have HE := Lib.hid (And.intro hdl (And.intro hgl hσ1))
        have hnx1 : σ1.next ≤ 100 := by rw [hx1]; omega
        clear hcp hi1 hx1 hdl hgl hσ1
        go_wp2_with fail
        refine Calls.mono (HA.out.swap.quTck (by omega) num) ?_
        rw [← HE.out.1, ← HE.out.2.1, ← HE.out.2.2]
        rintro e w6 ⟨A1, n1, c1, A2, n2, c2, hn1, hn2, rfl, hP⟩
        have HN1 := Lib.hid hn1
        have HN2 := Lib.hid hn2
        have hrl := HCP.out.rlen hnx1
        rw [List.length_append, List.length_map, ← hn1, ← hn2] at hrl
        have HP6 := Lib.hid ((hP.up2.quMono (Nat.le_succ j)).down2.up3.tail)
        clear hP hn1 hn2 o0 o1 o2 o3 o4 o5 o6 o7 o8 o9 o10 o11 o12 o13
        go_wp2_with fail
        go_loopw [64] (fun i wr => ∃ (q : Nat) (ws1 : List (Int × Int)), i = .int .i64 q ∧ q ≤ n1 ∧ Hid (CPart σ1 ws1 ((dl.drop q).map (·.1) ++ gl)) ∧ Hp w wr (ALt (.slice A1 n1 c1) dl :: AInt (.slice A2 n2 c2) gl :: AQu qb σ1 (j + 1) :: ABlk w.heap.size (.cells #[.int .i64 av, .int .i64 ar, .int .i64 ad, .int .i64 ai, .int .i64 am, .string az, .bool af] 23) :: AMap KI (Value.int .i64) wm ws1 :: [])) (fun i _ => n1 - (intOf i).toNat)
        case atStart => exact ⟨0, ws, rfl, Nat.zero_le _, Lib.hid HCP.out, HP6.out⟩
        case round =>
          obtain ⟨q, ws1, rfl, hq, hF1, hQ⟩ := hrel
          have HQ1 := Lib.hid hQ
          clear hQ
          by_cases hqn : q < n1
          case neg =>
            have hq' : q = n1 := by omega
            subst hq'
            have hF2 : CPart σ1 ws1 gl := by
              have := hF1.out
              rw [List.drop_eq_nil_of_le (by rw [← HN1.out]; exact Nat.le_refl _)] at this
              exact this
            have HF2 := Lib.hid hF2
            clear hF2
            go_wp2_with fail
            go_loopw [76] (fun i wr => ∃ (q : Nat) (ws1 : List (Int × Int)), i = .int .i64 q ∧ q ≤ n2 ∧ Hid (CPart σ1 ws1 (gl.drop q)) ∧ Hp w wr (AInt (.slice A2 n2 c2) gl :: AQu qb σ1 (j + 1) :: ABlk w.heap.size (.cells #[.int .i64 av, .int .i64 ar, .int .i64 ad, .int .i64 ai, .int .i64 am, .string az, .bool af] 23) :: AMap KI (Value.int .i64) wm ws1 :: [])) (fun i _ => n2 - (intOf i).toNat)
            case atStart => exact ⟨0, ws1, rfl, Nat.zero_le _, Lib.hid HF2.out, HQ1.out.tail⟩
            case round =>
              obtain ⟨q2, ws2, rfl, hq2, hF3, hQ⟩ := hrel
              have HQ3 := Lib.hid hQ
              clear hQ
              by_cases hqn2 : q2 < n2
              case neg =>
                have hq' : q2 = n2 := by omega
                subst hq'
                have hF4 : CPart σ1 ws2 [] := by
                  have := hF3.out
                  rw [List.drop_eq_nil_of_le (by rw [← HN2.out]; exact Nat.le_refl _)] at this
                  exact this
                go_wp2_with fail
                go_meet
                case rel => exact ⟨σ1, ws2, by rw [HX1.out], HI1, Lib.hid hF4, HQ3.out.tail⟩
              case pos =>
              have j0 : (0 : Int) ≤ (q2 : Int) := by omega
              have j1 : (q2 : Int) < (n2 : Int) := by omega
              have hrT := Kd.R_reads' HQ3.out.head
              rw [← HN2.out] at hrT
              obtain ⟨adr, x, rfl, hx, d0⟩ := C_nth_int hrT.2.2 q2 hqn2
              have HQ4 := Lib.hid HQ3.out.up3
              have hxb := hF3.out.next (k := 0) (id := x) (by rw [drop_at hx]; rfl)
              have hF4 := hF3.out
              rw [drop_at hx] at hF4
              have hwf : (Lit.int .i64 x).wf = true := wf_id (by omega)
              have lk := lookW HQ4.out.aMap hwf
              rw [hF4.zero] at lk
              have hwl := hF4.wlen hnx1
              have HF5 := Lib.hid hF4.step
              clear hrT hx hF4 hxb
              go_wp2_with (refine wpList_put_at (K := KI) (enc := Value.int .i64) HQ4.out.aMap (by rfl) (.tmp 80) (.tmp 81) (.tmp 83) 66 3 rfl under66 hwl rfl x 1 rfl rfl hwf ?_; intro w7 hM7 hB7; have HP7 := Lib.hid (HQ4.out.aMapUse.2 w7 _ hM7 hB7); clear hM7 hB7)
              refine ⟨⟨q2 + 1, mput ws2 x 1, by simp, by omega, HF5, HP7.out.down3⟩, ?_⟩
              simp [intOf]
              omega
          case pos =>
          have j0 : (0 : Int) ≤ (q : Int) := by omega
          have j1 : (q : Int) < (n1 : Int) := by omega
          have hrT := Kd.R_reads' HQ1.out.head
          rw [← HN1.out] at hrT
          obtain ⟨adr, ⟨x, x2, x3, x4⟩, rfl, hx, d0, d1, d2, d3⟩ := C_nth_lt hrT.2.2 q hqn
          dsimp only at d0 d1 d2 d3
          have HXB := Lib.hid (HQ1.out.alloc (.cells #[.int .i64 x, .int .i64 x2, .string x3, .string x4] 68))
          obtain ⟨xb, hxb⟩ : ∃ xb, xb = wr.heap.size := ⟨_, rfl⟩
          have hdr : (dl.drop q).map (·.1) ++ gl = x :: ((dl.drop (q + 1)).map (·.1) ++ gl) := by rw [drop_at hx]; rfl
          have hF4 := hF1.out
          rw [hdr] at hF4
          have hxb2 := hF4.next (k := 0) (id := x) rfl
          have hwf : (Lit.int .i64 x).wf = true := wf_id (by omega)
          have hwl := hF4.wlen hnx1
          have hz := hF4.zero
          have HF5 := Lib.hid hF4.step
          clear hrT hx hF4 hxb2 hdr
          go_upto_region 16 with (fail)
          rw [← hxb] at HXB ⊢
          clear hxb d0 d1 d2 d3
          generalize wr.alloc (.cells #[.int .i64 x, .int .i64 x2, .string x3, .string x4] 68) = WX at *
          have HQ4 := Lib.hid HXB.out.up5
          have b0 := blk_cell HXB.out.blk0 0
          simp only [List.getElem?_toArray, List.getElem?_cons_zero, List.getElem?_cons_succ] at b0
          have lk := lookW HQ4.out.aMap hwf
          rw [hz] at lk
          clear hz
          go_wp2_with (refine wpList_put_at (K := KI) (enc := Value.int .i64) HQ4.out.aMap (by rfl) (.tmp 68) (.tmp 70) (.tmp 72) 66 3 rfl under66 hwl rfl x 1 rfl rfl hwf ?_; intro w7 hM7 hB7; have HP7 := Lib.hid (HQ4.out.aMapUse.2 w7 _ hM7 hB7); clear hM7 hB7)
          refine ⟨⟨q + 1, mput ws1 x 1, by simp, by omega, HF5, HP7.out.swap.tail.down4⟩, ?_⟩
          simp [intOf]
          omega
      case neg =>
      have he0 : (kind == 0) = false := by simpa using h0
      by_cases h1 : kind = 1
      case pos =>
        have he1 : (kind == 1) = true := by simpa using h1
        obtain ⟨x1, hx1⟩ : ∃ x, x = (qSend σ body group key num).2.1 := ⟨_, rfl⟩
        obtain ⟨e1, hee1⟩ : ∃ x, x = (qSend σ body group key num).2.2 := ⟨_, rfl⟩
        obtain ⟨σ2, hσ2⟩ : ∃ s, s = (qSend σ body group key num).1 := ⟨_, rfl⟩
        have hcs := hF.out.send hI.out body group key num
        rw [← hx1, ← hee1, ← hσ2] at hcs
        have HCS := Lib.hid hcs
        have HI2 := Lib.hid (show QInv σ2 (j + 1) by rw [hσ2]; exact hI.out.send _ _ _ _)
        have HX := Lib.hid (And.intro hx1 (And.intro hee1 hσ2))
        clear h0 h1 hx1 hee1 hσ2 hcs
        go_wp2_with fail
        refine Calls.mono (HA.out.swap.quSend (by omega) body group key num hgs hks) ?_
        rw [← HX.out.1, ← HX.out.2.1, ← HX.out.2.2]
        rintro e w6 ⟨rfl, hP⟩
        have HP6 := Lib.hid hP.drop1
        clear hP o0 o1 o2 o3 o4 o5 o6 o7 o8 o9 o10 o11 o12 o13
        by_cases hz : e1 = 0
        case neg =>
          have hee : (e1 == 0) = false := by simpa using hz
          have HNX := Lib.hid (HCS.out.2.2 hz)
          clear hz
          go_wp2_with fail
          go_meet
          case rel => exact ⟨σ2, ws, by rw [HNX.out], HI2, Lib.hid HCS.out.1, HP6.out⟩
        case pos =>
          have hee : (e1 == 0) = true := by simpa using hz
          have HNX := Lib.hid (HCS.out.2.1 hz)
          clear hz
          obtain ⟨rm, hrm⟩ : ∃ rm, rm = max (σ.next - 1) x1 := ⟨_, rfl⟩
          have hmx : ∀ ts t W, (Builtin.max_ ts t #[.int .i64 (σ.next - 1), .int .i64 x1]).run Tryz.prog W = .ok (.int .i64 rm) W := by
            intro ts t W
            simp [Builtin.max_, Builtin.max2]
            rw [hrm]
            split <;> omega
          have HRM := Lib.hid hrm
          clear hrm
          go_wp2_with fail
          go_meet
          case rel => exact ⟨σ2, ws, by rw [HNX.out, HRM.out], HI2, Lib.hid HCS.out.1, HP6.out⟩
      case neg =>
      have he1 : (kind == 1) = false := by simpa using h1
      by_cases h3 : kind = 3
      case pos =>
        have he3 : (kind == 3) = true := by simpa using h3
        obtain ⟨x1, hx1⟩ : ∃ x, x = (qAck σ rec).2.1 := ⟨_, rfl⟩
        obtain ⟨e1, hee1⟩ : ∃ x, x = (qAck σ rec).2.2 := ⟨_, rfl⟩
        obtain ⟨σ2, hσ2⟩ : ∃ s, s = (qAck σ rec).1 := ⟨_, rfl⟩
        have hca := hF.out.ack hI.out rec
        have hsb := (sub_ack (σ := σ) rec).nxt
        rw [← hx1, ← hee1, ← hσ2] at hca
        rw [← hσ2] at hsb
        have HCA := Lib.hid hca
        have HSB := Lib.hid hsb
        have HI2 := Lib.hid (show QInv σ2 (j + 1) by rw [hσ2]; exact (hI.out.ack _).mono (Nat.le_succ j))
        have HX := Lib.hid (And.intro hx1 (And.intro hee1 hσ2))
        clear h0 h1 h3 hx1 hee1 hσ2 hca hsb
        go_wp2_with fail
        refine Calls.mono (HA.out.swap.quAck (show RecOk w j by unfold RecOk; omega) rec) ?_
        rw [← HX.out.1, ← HX.out.2.1, ← HX.out.2.2]
        rintro e w6 ⟨rfl, hP⟩
        have HP6 := Lib.hid (hP.drop1.quMono (Nat.le_succ j))
        clear hP o0 o1 o2 o3 o4 o5 o6 o7 o8 o9 o10 o11 o12 o13
        rcases HCA.out with ⟨rfl, hcp⟩ | ⟨rfl, hsame⟩
        case inr =>
          have HSM := Lib.hid hsame
          clear hsame
          go_wp2_with fail
          go_meet
          case rel => exact ⟨σ2, ws, by rw [HSB.out], HI2, by rw [HSM.out]; exact hF, HP6.out⟩
        case inl =>
          have hxb := hcp.next (k := 0) (id := x1) rfl
          have hwf : (Lit.int .i64 x1).wf = true := wf_id (by have := HSB.out; omega)
          have HP7' := Lib.hid HP6.out.up2
          have lk := lookW HP7'.out.aMap hwf
          rw [hcp.zero] at lk
          have hwl := hcp.wlen (by have := HSB.out; omega)
          have HF5 := Lib.hid hcp.step
          clear hcp hxb
          go_wp2_with (refine wpList_put_at (K := KI) (enc := Value.int .i64) HP7'.out.aMap (by rfl) (.tmp 116) (.tmp 117) (.tmp 119) 66 3 rfl under66 hwl rfl x1 1 rfl rfl hwf ?_; intro w7 hM7 hB7; have HP7 := Lib.hid (HP7'.out.aMapUse.2 w7 _ hM7 hB7); clear hM7 hB7)
          go_meet
          case rel => exact ⟨σ2, mput ws x1 1, by rw [HSB.out], HI2, HF5, HP7.out.down2⟩
      case neg =>
      have he3 : (kind == 3) = false := by simpa using h3
      by_cases h5 : kind = 5
      case pos =>
        have he5 : (kind == 5) = true := by simpa using h5
        have HCP := Lib.hid hF.out.purge
        have HI2 := Lib.hid (show QInv (qPurge σ) (j + 1) from hI.out.purge.mono (Nat.le_succ j))
        obtain ⟨ln, hln⟩ : ∃ ln, ln = σ.l.length := ⟨_, rfl⟩
        have HLN := Lib.hid hln
        have hln1 : ln ≤ 1024 := by rw [hln]; exact hI.out.len
        clear h0 h1 h3 h5 hln
        go_wp2_with fail
        refine Calls.mono (HA.out.swap.quIds (by omega)) ?_
        rw [← HLN.out]
        rintro e w6 ⟨A6, c6, rfl, hP⟩
        have HP6 := Lib.hid (hP.up2.tail)
        clear hP o0 o1 o2 o3 o4 o5 o6 o7 o8 o9 o10 o11 o12 o13
        go_wp2_with fail
        go_loopw [125] (fun i wr => ∃ (q : Nat) (ws1 : List (Int × Int)), i = .int .i64 q ∧ q ≤ ln ∧ Hid (CPart (qPurge σ) ws1 ((σ.l.map (·.id)).drop q)) ∧ Hp w wr (AInt (.slice A6 ln c6) (σ.l.map (·.id)) :: AQu qb σ j :: ABlk w.heap.size (.cells #[.int .i64 av, .int .i64 ar, .int .i64 ad, .int .i64 ai, .int .i64 am, .string az, .bool af] 23) :: AMap KI (Value.int .i64) wm ws1 :: [])) (fun i _ => ln - (intOf i).toNat)
        case atStart => exact ⟨0, ws, rfl, Nat.zero_le _, Lib.hid HCP.out, HP6.out⟩
        case round =>
          obtain ⟨q, ws1, rfl, hq, hF1, hQ⟩ := hrel
          have HQ1 := Lib.hid hQ
          clear hQ
          by_cases hqn : q < ln
          case neg =>
            have hq' : q = ln := by omega
            subst hq'
            have hF2 : CPart (qPurge σ) ws1 [] := by
              have := hF1.out
              rw [List.drop_eq_nil_of_le (by rw [List.length_map, ← HLN.out]; exact Nat.le_refl _)] at this
              exact this
            have HF2 := Lib.hid hF2
            have HQ2 := Lib.hid HQ1.out.tail
            clear hF2
            go_wp2_with fail
            refine Calls.mono (HQ2.out.quPurge (by omega)) ?_
            rintro e w7 ⟨rfl, hP⟩
            have HP7 := Lib.hid (hP.quMono (Nat.le_succ j))
            clear hP
            go_wp2_with fail
            go_meet
            case rel => exact ⟨qPurge σ, ws1, rfl, HI2, HF2, HP7.out⟩
          case pos =>
          have j0 : (0 : Int) ≤ (q : Int) := by omega
          have j1 : (q : Int) < (ln : Int) := by omega
          have hrT := Kd.R_reads' HQ1.out.head
          rw [List.length_map, ← HLN.out] at hrT
          obtain ⟨adr, x, rfl, hx, d0⟩ := C_nth_int hrT.2.2 q hqn
          have HQ4 := Lib.hid HQ1.out.up3
          have hF4 := hF1.out
          rw [drop_at hx] at hF4
          have hxb : 0 < x ∧ x < σ.next := hF4.next (k := 0) (id := x) rfl
          have hwf : (Lit.int .i64 x).wf = true := wf_id (by omega)
          have lk := lookW HQ4.out.aMap hwf
          rw [hF4.zero] at lk
          have hwl := hF4.wlen (show σ.next ≤ 100 by omega)
          have HF5 := Lib.hid hF4.step
          clear hrT hx hF4 hxb
          go_wp2_with (refine wpList_put_at (K := KI) (enc := Value.int .i64) HQ4.out.aMap (by rfl) (.tmp 129) (.tmp 130) (.tmp 132) 66 3 rfl under66 hwl rfl x 1 rfl rfl hwf ?_; intro w7 hM7 hB7; have HP7 := Lib.hid (HQ4.out.aMapUse.2 w7 _ hM7 hB7); clear hM7 hB7)
          refine ⟨⟨q + 1, mput ws1 x 1, by simp, by omega, HF5, HP7.out.down3⟩, ?_⟩
          simp [intOf]
          omega
      case neg =>
      have he5 : (kind == 5) = false := by simpa using h5
      have hcd := hF.out.does kind num num2 body group key rec qa h0 h1 h3 h5
      clear h0 h1 h3 h5
      obtain ⟨σ2, hσ2⟩ : ∃ s, s = qDoes σ kind num num2 body group key rec qa := ⟨_, rfl⟩
      have hdo := fun (w1 : World) (Ps : List Asn) (h : Hp w w1 (ABlk ob (.cells #[.int .i64 kind, .int .i64 num, .int .i64 num2, .string body, .string group, .string key, .string rec, .int .i64 qa.vis, .int .i64 qa.ret, .int .i64 qa.del, .int .i64 qa.win, .int .i64 qa.max, .string qa.dead, .bool qa.fifo] 52) :: AQu qb σ j :: Ps)) => h.doesFresh HR.out.symm (show RecOk w j by unfold RecOk; omega) (by omega) kind num num2 body group key rec qa hgs hks
      rw [HR0.out, show opVal kind num num2 body group key rec qa = .agg #[.int .i64 kind, .int .i64 num, .int .i64 num2, .string body, .string group, .string key, .string rec, .int .i64 qa.vis, .int .i64 qa.ret, .int .i64 qa.del, .int .i64 qa.win, .int .i64 qa.max, .string qa.dead, .bool qa.fifo] from rfl, ← hσ2] at hdo
      have HDO := Lib.hid hdo
      have HS2 := Lib.hid hσ2
      clear hdo hσ2
      rw [← HS2.out] at hcd
      have HCD := Lib.hid hcd
      clear hcd
      have c0 := blk_cell HA.out.blk2 0
      clear c0
      go_upto_region 10 with (fail)
      clear o0 o1 o2 o3 o4 o5 o6 o7 o8 o9 o10 o11 o12 o13
      have HPd := Lib.hid (HA.out.below (Below.refl _ _).drew)
      refine start_ (n := 6) (S := fun w' => w'.heap[ob]? = some (.cells #[.int .i64 kind, .int .i64 num, .int .i64 num2, .string body, .string group, .string key, .string rec, .int .i64 qa.vis, .int .i64 qa.ret, .int .i64 qa.del, .int .i64 qa.win, .int .i64 qa.max, .string qa.dead, .bool qa.fifo] 52) ∧ w'.heap[w.heap.size]? = some (.cells #[.int .i64 av, .int .i64 ar, .int .i64 ad, .int .i64 ai, .int .i64 am, .string az, .bool af] 23)) (ds := []) #[false, false, false, false, false, false] (by kernel_rfl) rfl rfl (⟨HPd.out.blk0, HPd.out.blk2⟩) (fun hHeld => ?_)
      generalize W.drew = wd at *
      refine pure_ (i := 0) (N := (some 47)) (v := ?_) (a' := ?_) #[true, false, false, false, false, false] rfl rfl (by kernel_rfl) (fun _ _ _ h => h) (Or.inl ⟨by rfl, ?_⟩) ?_ ?_
      rotate_left
      · intro w'
        go_simp
        with_reducible rfl
      rotate_left
      · simp only [Act.put, List.setIfInBounds_toArray, List.set_cons_zero, List.set_cons_succ, i64_w, i32_w]
        rfl
      refine take_ (i := 1) (N := (some 48)) (v := ?_) (a' := ?_) #[true, true, false, false, false, false] rfl rfl (by kernel_rfl) (fun _ _ _ h => h) (Or.inl ⟨by rfl, ?_⟩) hHeld ?_ ?_
      rotate_left
      · rintro w' ⟨so, sb⟩
        obtain ⟨g0, g1, g2, g3, g4, g5, g6⟩ := box7 sb
        go_simp
        with_reducible rfl
      rotate_left
      · simp only [Act.put, List.setIfInBounds_toArray, List.set_cons_zero, List.set_cons_succ, i64_w, i32_w]
        rfl
      refine take_ (i := 4) (N := (some 51)) (v := ?_) (a' := ?_) #[true, true, false, false, true, false] rfl rfl (by kernel_rfl) (fun _ _ _ h => h) (Or.inl ⟨by rfl, ?_⟩) hHeld ?_ ?_
      rotate_left
      · rintro w' ⟨so, sb⟩
        obtain ⟨g0, g1, g2, g3, g4, g5, g6, g7, g8, g9, g10, g11, g12, g13⟩ := blk14 so
        go_simp
        with_reducible rfl
      rotate_left
      · simp only [Act.put, List.setIfInBounds_toArray, List.set_cons_zero, List.set_cons_succ, i64_w, i32_w]
        rfl
      refine one_ (i := 2) (N := some 49) #[true, true, true, false, true, false] rfl rfl (by kernel_rfl) (by decide) (fun K hK => ?_)
      refine goes_ Tryz.func24 (by kernel_rfl) rfl #[.agg #[.int .i64 av, .int .i64 ar, .int .i64 ad, .int .i64 ai, .int .i64 am, .string az, .bool af]] (by rfl) rfl rfl (by first | rfl | (go_simp; done) | (simp [Act.eval]; done) | (simp [Act.eval]; rfl)) ?_
      refine Calls.mono (HLA.out wd) ?_
      rintro e w4 ⟨rfl, hB4⟩
      have HD4 := Lib.hid (HPd.out.below hB4)
      clear hB4
      refine ⟨_, rfl, ?_⟩
      refine hK.out _ _ ⟨HD4.out.blk0, HD4.out.blk2⟩ (fun hHeld => ?_)
      clear hK K
      refine norm_ (a' := ?_) ?_ ?_
      rotate_left
      · show Act.put _ (some 49) _ = _
        simp only [Act.put, List.setIfInBounds_toArray, List.set_cons_zero, List.set_cons_succ, i64_w, i32_w]
        rfl
      refine one_ (i := 3) (N := some 50) #[true, true, true, true, true, false] rfl rfl (by kernel_rfl) (by decide) (fun K hK => ?_)
      refine goes_ Tryz.func23 (by kernel_rfl) rfl #[.agg #[.int .i64 av, .int .i64 ar, .int .i64 ad, .int .i64 ai, .int .i64 am, .string az, .bool af]] (by rfl) rfl rfl (by first | rfl | (go_simp; done) | (simp [Act.eval]; done) | (simp [Act.eval]; rfl)) ?_
      refine Calls.mono (HRN.out w4) ?_
      rintro e w5 ⟨rfl, hB5⟩
      have HD5 := Lib.hid (HD4.out.below hB5)
      clear hB5
      rw [HR0.out]
      refine ⟨_, rfl, ?_⟩
      refine hK.out _ _ ⟨HD5.out.blk0, HD5.out.blk2⟩ (fun hHeld => ?_)
      clear hK K
      refine norm_ (a' := ?_) ?_ ?_
      rotate_left
      · show Act.put _ (some 50) _ = _
        simp only [Act.put, List.setIfInBounds_toArray, List.set_cons_zero, List.set_cons_succ, i64_w, i32_w]
        rfl
      refine one_ (i := 5) (N := some 52) #[true, true, true, true, true, true] rfl rfl (by kernel_rfl) (by decide) (fun K hK => ?_)
      refine goes_ Tryz.func22 (by kernel_rfl) rfl #[.pointer (some ⟨qb, 0, none⟩), .agg #[.int .i64 av, .int .i64 ar, .int .i64 ad, .int .i64 ai, .int .i64 am, .string az, .bool af, .int .i64 0, .int .i64 1, .slice none 0 0, .slice none 0 0], .agg #[.int .i64 kind, .int .i64 num, .int .i64 num2, .string body, .string group, .string key, .string rec, .int .i64 qa.vis, .int .i64 qa.ret, .int .i64 qa.del, .int .i64 qa.win, .int .i64 qa.max, .string qa.dead, .bool qa.fifo]] (by rfl) rfl rfl (by first | rfl | (go_simp; done) | (simp [Act.eval]; done) | (simp [Act.eval]; rfl)) ?_
      refine Calls.mono (HDO.out _ _ HD5.out) ?_
      rintro e w6 ⟨v, rfl, hP6⟩
      have HD6 := Lib.hid hP6
      clear hP6
      refine ⟨_, rfl, ?_⟩
      refine hK.out _ _ ⟨HD6.out.blk0, HD6.out.blk2⟩ (fun hHeld => ?_)
      clear hK K
      refine norm_ (a' := ?_) ?_ ?_
      rotate_left
      · show Act.put _ (some 52) _ = _
        simp only [Act.put, List.setIfInBounds_toArray, List.set_cons_zero, List.set_cons_succ, i64_w, i32_w]
        rfl
      refine done_ (by kernel_rfl) ?_
      go_wp2_with fail
      go_meet
      case rel => exact ⟨σ2, ws, by rw [HCD.out.2], Lib.hid (by rw [HS2.out]; exact hI.out.does _ _ _ _ _ _ _ _), Lib.hid HCD.out.1, HD6.out.tail⟩
    case rest =>
    obtain ⟨σ2, ws2, rfl, hI2, hF2, hX⟩ := hcut
    have HX := Lib.hid hX
    clear hX o0 o1 o2 o3 o4 o5 o6 o7 o8 o9 o10 o11 o12 o13
    obtain ⟨ln, hln⟩ : ∃ ln, ln = σ2.l.length := ⟨_, rfl⟩
    have HLN := Lib.hid hln
    have hnx2 := hI2.out.nxt
    have HCT := Lib.hid (hF2.out.count hI2.out)
    have hwl2 := hF2.out.wlen (by omega)
    have hln1 : ln ≤ 1024 := by rw [hln]; exact hI2.out.len
    clear hln
    go_wp2_with fail
    refine Calls.mono (HX.out.quIds (by omega)) ?_
    rw [← HLN.out]
    rintro e w6 ⟨A6, c6, rfl, hP⟩
    have HP6 := Lib.hid hP
    clear hP
    go_wp2_with fail
    go_loopw [140] (fun i wr => ∃ q : Nat, i = .int .i64 q ∧ q ≤ ln ∧ Hp w wr (AInt (.slice A6 ln c6) (σ2.l.map (·.id)) :: AQu qb σ2 (j + 1) :: ABlk w.heap.size (.cells #[.int .i64 av, .int .i64 ar, .int .i64 ad, .int .i64 ai, .int .i64 am, .string az, .bool af] 23) :: AMap KI (Value.int .i64) wm ws2 :: [])) (fun i _ => ln - (intOf i).toNat)
    case atStart => exact ⟨0, rfl, Nat.zero_le _, HP6.out⟩
    case round =>
      obtain ⟨q, rfl, hq, hQ⟩ := hrel
      have HQ1 := Lib.hid hQ
      clear hQ
      by_cases hqn : q < ln
      case pos =>
        have j0 : (0 : Int) ≤ (q : Int) := by omega
        have j1 : (q : Int) < (ln : Int) := by omega
        have hrT := Kd.R_reads' HQ1.out.head
        rw [List.length_map, ← HLN.out] at hrT
        obtain ⟨adr, x, rfl, hx, d0⟩ := C_nth_int hrT.2.2 q hqn
        rw [List.getElem?_map] at hx
        obtain ⟨m, hm, rfl⟩ := Option.map_eq_some_iff.1 hx
        obtain ⟨hnone, hpos, hlt⟩ := hF2.out.there (List.mem_of_getElem? hm)
        have hwf : (Lit.int .i64 m.id).wf = true := wf_id (by omega)
        have HQ4 := Lib.hid HQ1.out.up3
        have lk := lookW HQ4.out.aMap hwf
        rw [hnone] at lk
        dsimp only [Option.getD] at lk
        have k1 : ¬ m.id < 1 := by omega
        have k2 : ¬ σ2.next - 1 < m.id := by omega
        clear hrT hx hm hnone hpos hlt
        go_wp2_with fail
        refine ⟨⟨q + 1, by simp, by omega, HQ1.out⟩, ?_⟩
        simp [intOf]
        omega
      case neg =>
      have hq' : q = ln := by omega
      subst hq'
      have HQ4 := Lib.hid HQ1.out.up3
      obtain ⟨rb, hrb⟩ : ∃ rb, rb = wr.heap.size := ⟨_, rfl⟩
      go_upto_region 46 with (fail)
      go_wp2_with (refine wpList_range_at (K := KI) (enc := Value.int .i64) HQ4.out.aMap (by rfl) (.tmp 158) 66 3 rfl under66 rfl ?_; intro w7 hR7 hB7 hz7)
      have HR7 := Lib.hid (HQ4.out.aRgStart hR7 hB7 hrb)
      clear hR7 hB7 hz7
      rw [← hrb]
      clear hrb
      go_frame
      go_loopg [25] ws2.length (fun gn nv wr => ∃ todo : List (Int × Int), todo.length = gn ∧ gn ≤ ws2.length ∧ (∀ p ∈ todo, p.2 = 1) ∧ nv = .int .i64 ((ws2.length - gn : Nat) : Int) ∧ Hp w wr (ARg KI (Value.int .i64) wm rb ws2 todo :: AInt (.slice A6 q c6) (σ2.l.map (·.id)) :: AQu qb σ2 (j + 1) :: ABlk w.heap.size (.cells #[.int .i64 av, .int .i64 ar, .int .i64 ad, .int .i64 ai, .int .i64 am, .string az, .bool af] 23) :: []))
      case atStart => exact ⟨ws2, rfl, Nat.le_refl _, hF2.out.one, by simp, HR7.out⟩
      case round =>
        obtain ⟨todo, rfl, hgl, hone, rfl, hQ⟩ := hrel
        have HQ5 := Lib.hid hQ
        have HONE := Lib.hid hone
        clear hQ hone
        obtain ⟨hra, hrn⟩ := HQ5.out.aRgNext
        have HRA := Lib.hid hra
        have HRN := Lib.hid hrn
        clear hra hrn
        have hw6 : ws2.length ≤ 1000 := by have := HCT.out; omega
        go_wp2_with (refine wpList_next_at (K := KI) (enc := Value.int .i64) HRA.out (by rfl) (.tmp 159) rfl rfl ?_ ?_)
        · intro htodo
          have hgn0 : todo.length = 0 := by rw [htodo]; rfl
          clear htodo
          rw [hgn0]
          have hsum : (((ws2.length - 0 : Nat) : Int) + (q : Int) != σ2.next - 1) = false := by
            have h1 := HCT.out
            rw [← HLN.out] at h1
            simpa using h1
          have hwr : IntKind.i64.wrap (((ws2.length - 0 : Nat) : Int) + (q : Int)) = ((ws2.length - 0 : Nat) : Int) + (q : Int) := IntWalk.i64_in _ (by omega)
          have HEND := Lib.hid HQ5.out.aRgEnd
          generalize ((ws2.length - 0 : Nat) : Int) = nv at *
          go_wp2_with fail
          refine ⟨⟨j + 1, σ2, ws2, by simp, by omega, rfl, hI2, hF2, HEND.out.down3.tail⟩, ?_⟩
          simp [intOf]
          omega
        · intro c x todo' w8 hperm hmem hok8 hR8 hB8 hent
          have HP8 := Lib.hid (HRN.out w8 todo' hR8 hB8)
          have hx1 : x = 1 := HONE.out (c, x) (hperm.mem_iff.2 (List.mem_cons_self ..))
          have HO8 := Lib.hid (show ∀ p ∈ todo', p.2 = 1 from fun p hp => HONE.out p (hperm.mem_iff.2 (List.mem_cons_of_mem _ hp)))
          have hlen := hperm.length_eq
          rw [List.length_cons] at hlen
          subst hx1
          have hnv : ((ws2.length - todo.length : Nat) : Int) + 1 = ((ws2.length - todo'.length : Nat) : Int) := by omega
          have HNV := Lib.hid hnv
          clear hR8 hB8 hperm hmem hnv
          go_wp2_with fail
          go_roundg todo'.length
          case rel => exact ⟨todo', rfl, by omega, HO8.out, congrArg (Value.int .i64) (by omega), HP8.out⟩
          case measure => omega
theorem counts_law (a : QA) (A : Option Addr) (n cap : Nat) (xs : List QOp) (w : World) (hC : KQOp.C w A n xs) (_ : n ≤ cap) (hok : ∀ x ∈ xs, opWf x) :
    Calls Tryz.prog 8 #[a.val, .slice A n cap] w fun e w' => e = .returned (.bool true) ∧ Below w.heap.size w w' := counts_at a A n cap xs w hC hok
end Go.Proofs.YtoclcmnphdgfpaaGreatDoor
