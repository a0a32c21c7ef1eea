/- The statement QueueReceipts of layer 8: every call of it tells true and leaves what was there as it was. -/
import Derived.Test.YtoclcmnphdgfpaaGreatDoorG14
import Derived.Test.YtoclcmnphdgfpaaGreatDoorG13
import Derived.Test.YtoclcmnphdgfpaaGreatDoorQuLoad
set_option linter.unusedVariables false
set_option linter.unusedSimpArgs false
namespace Go.Proofs.YtoclcmnphdgfpaaGreatDoor
open Go.RowKit Go.Maps Go.Proofs.YtoclcmnphdgfpaaGreatDoorW.PrintWords Go.Proofs.YtoclcmnphdgfpaaGreatDoorW.PrintLast
theorem zero_b (w : World) : (zeroValue 4).run Tryz.prog w = .ok (.bool false) w := by kernel_rfl
theorem under71 : Tryz.prog.underlying 71 = some (.map 9 4) := Tryz.underlying71
/-- Whether a receipt was told. -/
theorem lookR {w : World} {mb : Nat} {ts : List (ByteArray × Value)} (h : MapAt KG _root_.id w mb ts) {r : ByteArray} (hw : r.size ≤ maxLen) :
    (Instr.lookup 71 (.map (some mb)) (.string r) false).run Tryz.prog w = .ok ((mget ts r).getD (.bool false)) w := by
  have := h.look1 under71 (zero_b w) (a := r) hw
  cases hm : mget ts r with
  | none => rw [hm] at this; exact this
  | some v => rw [hm] at this; exact this
theorem dec_len (u : Nat) : (Lib.decDigits u).length ≤ u + 1 := by
  induction u using Nat.strongRecOn with
  | _ u ih =>
    rw [Lib.decDigits]
    split
    · simp
    · have := ih (u / 10) (by omega)
      rw [List.length_append, List.length_singleton]
      omega
theorem receipt_len (i c : Int) : (receipt i c).size ≤ i.toNat + c.toNat + 3 := by
  unfold receipt
  have h1 := dec_len i.toNat
  have h2 := dec_len c.toNat
  show (Lib.decDigits i.toNat ++ 46 :: Lib.decDigits c.toNat).toArray.size ≤ _
  rw [List.size_toArray, List.length_append, List.length_cons]
  omega
section
variable {σ : Qs} {T : Nat} {n vis : Int} {rs : List ByteArray}
theorem tks_of {x : Tk} (h : x ∈ (qRcv σ n vis).2.1) : ∃ m ∈ σ.l, x = m.tk := by
  unfold qRcv at h
  split at h
  · obtain ⟨m, hm, rfl⟩ := List.mem_map.1 h
    exact ⟨m, (List.mem_filter.1 (List.mem_of_mem_take hm)).1, rfl⟩
  · cases h
theorem tks_len (n vis : Int) : (qRcv σ n vis).2.1.length ≤ 10 := by
  unfold qRcv
  split
  · rename_i h
    unfold qMayRecv at h
    rw [decide_eq_true_iff] at h
    rw [List.length_map]
    unfold qTook
    rw [List.length_take]
    omega
  · exact Nat.zero_le _
theorem tks_rise (hi : QInv σ T) : (qRcv σ n vis).2.1.Pairwise (fun a b => a.1 < b.1) := by
  unfold qRcv
  split
  · rw [List.pairwise_map]
    exact (hi.rise.sublist ((List.take_sublist _ _).trans (List.filter_sublist)))
  · exact List.Pairwise.nil
/-- A receipt that is told now was not told before. -/
theorem tks_new (hi : QInv σ T) (h : RInv σ rs) {q : Nat} {x : Tk} (hx : (qRcv σ n vis).2.1[q]? = some x) :
    x.2.2.1 ∉ rs ∧ (∀ (i : Nat) (y : Tk), i < q → (qRcv σ n vis).2.1[i]? = some y → x.2.2.1 ≠ y.2.2.1) ∧ x.2.2.1.size ≤ 2 * T + 20 := by
  obtain ⟨m, hm, rfl⟩ := tks_of (List.mem_of_getElem? hx)
  have hid := hi.ids m hm
  have hc := hi.cnt m hm
  have hn := hi.nxt
  refine ⟨h.fresh hi hm, fun i y hiq hy => ?_, ?_⟩
  · obtain ⟨m', hm', rfl⟩ := tks_of (List.mem_of_getElem? hy)
    have hid' := hi.ids m' hm'
    have hc' := hi.cnt m' hm'
    intro e
    obtain ⟨e1, _⟩ := receipt_inj (by omega) (by omega) (by omega) (by omega) (show receipt m.id (m.count + 1) = receipt m'.id (m'.count + 1) from e)
    obtain ⟨h1, h2⟩ := List.getElem?_eq_some_iff.1 hx
    obtain ⟨h3, h4⟩ := List.getElem?_eq_some_iff.1 hy
    have h5 := List.pairwise_iff_getElem.1 (tks_rise (n := n) (vis := vis) hi) i q h3 h1 hiq
    rw [h2, h4] at h5
    have h6 : m'.id < m.id := h5
    omega
  · have := receipt_len m.id (m.count + 1)
    show (receipt m.id (m.count + 1)).size ≤ _
    omega
theorem rcv_told (hi : QInv σ T) (h : RInv σ rs) (n vis : Int) {rs2 : List ByteArray} (h2 : ∀ r ∈ rs2, r ∈ rs ∨ ∃ (i : Nat) (y : Tk), (qRcv σ n vis).2.1[i]? = some y ∧ r = y.2.2.1) : RInv (qRcv σ n vis).1 rs2 := by
  intro r hr
  rcases h2 r hr with h3 | ⟨i, y, hy, rfl⟩
  · exact (h.sub (sub_rcv n vis)) r h3
  · have hy := List.mem_of_getElem? hy
    unfold qRcv at hy ⊢
    split at hy
    · rename_i hmay
      rw [if_pos hmay]
      obtain ⟨m, hm, rfl⟩ := List.mem_map.1 hy
      have hml : m ∈ σ.l := (List.mem_filter.1 (List.mem_of_mem_take hm)).1
      have hid := hi.ids m hml
      have hc := hi.cnt m hml
      refine ⟨m.id, m.count + 1, rfl, by omega, hid.2, by omega, fun m' hm' e => ?_⟩
      obtain ⟨x, hx, rfl⟩ := List.mem_map.1 hm'
      split at e
      · rename_i hany
        rw [if_pos hany]
        have hxm := uniq_at hi hml x hx e
        subst hxm
        exact Int.le_refl _
      · rename_i hany
        exfalso
        have hxm := uniq_at hi hml x hx e
        subst hxm
        apply hany
        rw [List.any_eq_true]
        exact ⟨x, hm, by simp⟩
    · cases hy
theorem mput_key_of {α β : Type} [DecidableEq α] {l : List (α × β)} {a : α} {x : β} {r : α} (h : r ∈ (mput l a x).map (·.1)) : r = a ∨ r ∈ l.map (·.1) := by
  unfold mput mdel at h
  rw [List.map_cons] at h
  rcases List.mem_cons.1 h with h | h
  · exact .inl h
  · obtain ⟨p, hp, rfl⟩ := List.mem_map.1 h
    exact .inr (List.mem_map_of_mem (List.mem_filter.1 hp).1)
theorem mput_len {α β : Type} [DecidableEq α] (l : List (α × β)) (a : α) (x : β) : (mput l a x).length ≤ l.length + 1 := by
  unfold mput mdel
  rw [List.length_cons]
  have := List.length_filter_le (fun p : α × β => decide (p.1 ≠ a)) l
  omega
/-- What is known of the receipts that were told in one Receive, up to a place. -/
def Told (ts ts2 : List (ByteArray × Value)) (tks : List Tk) (q : Nat) : Prop := ∀ r ∈ ts2.map (·.1), r ∈ ts.map (·.1) ∨ ∃ (i : Nat) (y : Tk), i < q ∧ tks[i]? = some y ∧ r = y.2.2.1
theorem Told.next {ts ts2 : List (ByteArray × Value)} {tks : List Tk} {q : Nat} (h : Told ts ts2 tks q) {x : Tk} (hx : tks[q]? = some x) : Told ts (mput ts2 x.2.2.1 (.bool true)) tks (q + 1) := by
  intro r hr
  rcases mput_key_of hr with rfl | hr
  · exact .inr ⟨q, x, by omega, hx, rfl⟩
  · rcases h r hr with h1 | ⟨i, y, hi, hy, e⟩
    · exact .inl h1
    · exact .inr ⟨i, y, by omega, hy, e⟩
theorem Told.none {ts ts2 : List (ByteArray × Value)} {tks : List Tk} {q : Nat} (h : Told ts ts2 tks q) {k : ByteArray} (h1 : k ∉ ts.map (·.1)) (h2 : ∀ (i : Nat) (y : Tk), i < q → tks[i]? = some y → k ≠ y.2.2.1) : mget ts2 k = none := by
  rw [mget_none]
  intro p hp e
  rcases h p.1 (List.mem_map_of_mem hp) with h3 | ⟨i, y, hi, hy, e2⟩
  · exact h1 (e ▸ h3)
  · exact h2 i y hi hy (e.symm.trans e2)
end
set_option maxHeartbeats 1600000 in
set_option maxRecDepth 100000 in
theorem receipts_at (a : QA) (A : Option Addr) (n cap : Nat) (xs : List QOp) (w : World) (hC : KQOp.C w A n xs) (hok : ∀ x ∈ xs, opWf x) :
    Calls Tryz.prog 10 #[a.val, .slice A n cap] w fun e w' => e = .returned (.bool true) ∧ Below w.heap.size w w' := by
  obtain ⟨av, ar, ad, ai, am, az, af⟩ := a
  rw [QA.mk_val]
  have HNW := Lib.hid (fun (w1 : World) (Ps : List Asn) (h : Hp w w1 Ps) => h.quNew ⟨av, ar, ad, ai, am, az, af⟩)
  have HLA := Lib.hid (fun w1 : World => lawAttr_any ⟨av, ar, ad, ai, am, az, af⟩ w1)
  have HRN := Lib.hid (fun w1 : World => refNew_any ⟨av, ar, ad, ai, am, az, af⟩ w1)
  rw [QA.mk_val] at HNW HLA HRN
  have HC := Lib.hid hC
  have HOK := Lib.hid hok
  have HLX := Lib.hid (show n = xs.length from (Kd.C_len hC).symm)
  have HFW := Lib.hid (fun (w1 : World) (h : Below w.heap.size w w1) => few_any A n cap xs w1 (Kd.C_below hC h) (Kd.C_len hC) hok)
  obtain ⟨fw, hfw⟩ : ∃ fw, fw = fewB xs := ⟨_, rfl⟩
  rw [← hfw] at HFW
  have HFB := Lib.hid hfw
  obtain ⟨r, hr⟩ : ∃ r, r = qRight ⟨av, ar, ad, ai, am, az, af⟩ := ⟨_, rfl⟩
  rw [← hr] at HNW
  have HR := Lib.hid hr
  have HR0 := Lib.hid (show Qs.val (qNew ⟨av, ar, ad, ai, am, az, af⟩) (.slice none 0 0) (.slice none 0 0) = .agg #[.int .i64 av, .int .i64 ar, .int .i64 ad, .int .i64 ai, .int .i64 am, .string az, .bool af, .int .i64 0, .int .i64 1, .slice none 0 0, .slice none 0 0] from rfl)
  clear hC hok hfw hr
  have hmm := @run_makeMap Tryz.prog
  have HA := Lib.hid ((Hp.nil w).alloc (.cells #[.int .i64 av, .int .i64 ar, .int .i64 ad, .int .i64 ai, .int .i64 am, .string az, .bool af] 23))
  obtain ⟨c0, c1, c2, c3, c4, c5, c6⟩ := box7 HA.out.blk0
  go_enter Tryz.func10, Tryz.ntmps10
  go_wp2_with fail
  refine Calls.mono (HNW.out _ _ HA.out) ?_
  clear c0 c1 c2 c3 c4 c5 c6
  cases r
  case false =>
    rintro e w2 ⟨h1, _⟩
    obtain ⟨rfl, hP⟩ := h1 rfl
    have HP2 := Lib.hid hP
    clear hP h1
    go_wp2_with (go_at_call 13; refine Calls.mono (awake_any _) ?_; rintro e wz ⟨rfl, hB⟩)
    go_ret
    exact ⟨rfl, HP2.out.belowW.trans (hB.mono HP2.out.belowW.size)⟩
  case true =>
  rintro e w2 ⟨_, h2⟩
  obtain ⟨qb, rfl, hP⟩ := h2 rfl
  have HP2 := Lib.hid hP
  clear hP h2
  go_wp2_with fail
  refine Calls.mono (HFW.out w2 HP2.out.belowW) ?_
  rintro e w3 ⟨rfl, hB⟩
  have HP3 := Lib.hid (HP2.out.below hB)
  clear hB
  cases fw
  case false =>
    go_wp2_with (go_at_call 13; refine Calls.mono (awake_any _) ?_; rintro e wz ⟨rfl, hB⟩)
    go_ret
    exact ⟨rfl, HP3.out.belowW.trans (hB.mono HP3.out.belowW.size)⟩
  have hn60 : n ≤ 60 := by rw [HLX.out]; exact few_len HFB.out.symm
  have hg1 : Hp w (w3.alloc (.map #[] 0)) (AMap KG _root_.id w3.heap.size [] :: AQu qb (qNew ⟨av, ar, ad, ai, am, az, af⟩) 0 :: ABlk w.heap.size (.cells #[.int .i64 av, .int .i64 ar, .int .i64 ad, .int .i64 ai, .int .i64 am, .string az, .bool af] 23) :: []) := (HP3.out.alloc (.map #[] 0)).asAMap
  obtain ⟨tm, htm⟩ : ∃ g, g = w3.heap.size := ⟨_, rfl⟩
  rw [← htm] at hg1
  have HM0 := Lib.hid hg1.down2
  have HGM := Lib.hid htm
  clear hg1 htm
  go_wp2_with fail
  rw [← HGM.out]
  generalize w3.alloc (.map #[] 0) = W3 at *
  clear hmm
  go_loopw [33] (fun i wr => ∃ (j : Nat) (σ : Qs) (ts : List (ByteArray × Value)), i = .int .i64 j ∧ j ≤ n ∧ Hid (QInv σ j) ∧ Hid (RInv σ (ts.map (·.1)) ∧ ts.length ≤ 10 * j) ∧ Hp w wr (AQu qb σ j :: ABlk w.heap.size (.cells #[.int .i64 av, .int .i64 ar, .int .i64 ad, .int .i64 ai, .int .i64 am, .string az, .bool af] 23) :: AMap KG _root_.id tm ts :: [])) (fun i _ => n - (intOf i).toNat)
  case atStart => exact ⟨0, qNew ⟨av, ar, ad, ai, am, az, af⟩, [], rfl, Nat.zero_le _, Lib.hid (QInv.new HR.out.symm), Lib.hid ⟨fun r hr => absurd hr (by simp), Nat.le_refl _⟩, HM0.out⟩
  case round =>
    obtain ⟨j, σ, ts, rfl, hj, hI, hF, hQ⟩ := hrel
    have HQ := Lib.hid hQ
    clear hQ
    by_cases hjn : j < n
    case neg =>
      have hj' : j = n := by omega
      subst hj'
      go_wp2_with (go_at_call 13; refine Calls.mono (awake_any _) ?_; rintro e wz ⟨rfl, hB⟩)
      go_ret
      exact ⟨rfl, HQ.out.belowW.trans (hB.mono HQ.out.belowW.size)⟩
    have i0 : (0 : Int) ≤ (j : Int) := by omega
    have i1 : (j : Int) < (n : Int) := by omega
    obtain ⟨oa, kind, num, num2, body, group, key, rec, qa, rfl, hgs, hks, e0, e1, e2, e3, e4, e5, e6, e7, e8, e9, e10, e11, e12, e13⟩ := C_nth_call (Kd.C_below HC.out HQ.out.belowW) HOK.out j hjn
    have HA := Lib.hid (HQ.out.alloc (.cells #[.int .i64 kind, .int .i64 num, .int .i64 num2, .string body, .string group, .string key, .string rec, .int .i64 qa.vis, .int .i64 qa.ret, .int .i64 qa.del, .int .i64 qa.win, .int .i64 qa.max, .string qa.dead, .bool qa.fifo] 52))
    obtain ⟨ob, hob⟩ : ∃ ob, ob = wr.heap.size := ⟨_, rfl⟩
    go_upto_region 8 with (fail)
    rw [← hob] at HA ⊢
    clear hob e0 e1 e2 e3 e4 e5 e6 e7 e8 e9 e10 e11 e12 e13
    generalize wr.alloc (.cells #[.int .i64 kind, .int .i64 num, .int .i64 num2, .string body, .string group, .string key, .string rec, .int .i64 qa.vis, .int .i64 qa.ret, .int .i64 qa.del, .int .i64 qa.win, .int .i64 qa.max, .string qa.dead, .bool qa.fifo] 52) = W at *
    obtain ⟨o0, o1, o2, o3, o4, o5, o6, o7, o8, o9, o10, o11, o12, o13⟩ := blk14 HA.out.blk0
    by_cases h2 : kind = 2
    case pos =>
      have he2 : (kind == 2) = true := by simpa using h2
      clear h2
      obtain ⟨tks, htks⟩ : ∃ t, t = (qRcv σ num num2).2.1 := ⟨_, rfl⟩
      obtain ⟨er, her⟩ : ∃ t, t = (qRcv σ num num2).2.2 := ⟨_, rfl⟩
      obtain ⟨σ2, hσ2⟩ : ∃ s, s = (qRcv σ num num2).1 := ⟨_, rfl⟩
      have HNEW := Lib.hid (show ∀ (q : Nat) (x : Tk), tks[q]? = some x → x.2.2.1 ∉ ts.map (·.1) ∧ (∀ (i : Nat) (y : Tk), i < q → tks[i]? = some y → x.2.2.1 ≠ y.2.2.1) ∧ x.2.2.1.size ≤ 2 * j + 20 from fun q x hx => by
        rw [htks] at hx ⊢
        exact tks_new hI.out hF.out.1 hx)
      have HTOLD := Lib.hid (show ∀ rs2 : List ByteArray, (∀ r ∈ rs2, r ∈ ts.map (·.1) ∨ ∃ (i : Nat) (y : Tk), tks[i]? = some y ∧ r = y.2.2.1) → RInv σ2 rs2 from fun rs2 h => by
        rw [htks] at h
        rw [hσ2]
        exact rcv_told hI.out hF.out.1 num num2 h)
      have HI2 := Lib.hid (show QInv σ2 (j + 1) by rw [hσ2]; exact hI.out.rcv num num2)
      have hk10 : tks.length ≤ 10 := by rw [htks]; exact tks_len num num2
      have HRW := Lib.hid (And.intro htks (And.intro her hσ2))
      clear htks her hσ2
      go_wp2_with fail
      refine Calls.mono (HA.out.swap.quRcv (show RecOk w j by unfold RecOk; omega) num num2) ?_
      rw [← HRW.out.1, ← HRW.out.2.1, ← HRW.out.2.2]
      rintro e w6 ⟨A6, k6, c6, hk6, rfl, hP⟩
      have HK6 := Lib.hid hk6
      have hk11 : k6 ≤ 10 := by rw [hk6]; exact hk10
      have HP6 := Lib.hid hP.up2.tail
      clear hP hk6 o0 o1 o2 o3 o4 o5 o6 o7 o8 o9 o10 o11 o12 o13
      go_wp2_with fail
      go_loopw [51] (fun i wr => ∃ (q : Nat) (ts2 : List (ByteArray × Value)), i = .int .i64 q ∧ q ≤ k6 ∧ Hid (Told ts ts2 tks q ∧ ts2.length ≤ 10 * j + q) ∧ Hp w wr (ATk (.slice A6 k6 c6) tks :: AQu qb σ2 (j + 1) :: ABlk w.heap.size (.cells #[.int .i64 av, .int .i64 ar, .int .i64 ad, .int .i64 ai, .int .i64 am, .string az, .bool af] 23) :: AMap KG _root_.id tm ts2 :: [])) (fun i _ => k6 - (intOf i).toNat)
      case atStart => exact ⟨0, ts, rfl, Nat.zero_le _, Lib.hid ⟨fun r hr => .inl hr, by have := hF.out.2; omega⟩, HP6.out⟩
      case round =>
        obtain ⟨q, ts2, rfl, hq, hF2, hQ⟩ := hrel
        have HQ2 := Lib.hid hQ
        clear hQ
        by_cases hqk : q < k6
        case neg =>
          have hq' : q = k6 := by omega
          subst hq'
          go_wp2_with fail
          refine ⟨⟨j + 1, σ2, ts2, by simp, by omega, HI2, Lib.hid ⟨HTOLD.out _ (fun r hr => ?_), by have := hF2.out.2; omega⟩, HQ2.out.tail⟩, ?_⟩
          · rcases hF2.out.1 r hr with h1 | ⟨i, y, _, hy, e⟩
            · exact .inl h1
            · exact .inr ⟨i, y, hy, e⟩
          · simp [intOf]
            omega
        case pos =>
        have j0 : (0 : Int) ≤ (q : Int) := by omega
        have j1 : (q : Int) < (k6 : Int) := by omega
        have hrT := Kd.R_reads' HQ2.out.head
        rw [← HK6.out] at hrT
        obtain ⟨adr, ⟨x1, x2, rc, x4, x5⟩, rfl, hx, d0, d1, d2, d3, d4⟩ := C_nth_tk hrT.2.2 q hqk
        dsimp only at d0 d1 d2 d3 d4
        obtain ⟨hn1, hn2, hn3⟩ := HNEW.out q _ hx
        dsimp only at hn1 hn2 hn3
        have hmg : mget ts2 rc = none := hF2.out.1.none hn1 hn2
        have HTL := Lib.hid (hF2.out.1.next hx)
        have hgz : rc.size ≤ maxLen := by simp [maxLen]; omega
        have hll : ts2.length < maxLen := by have := hF2.out.2; simp [maxLen]; omega
        have HXB := Lib.hid (HQ2.out.alloc (.cells #[.int .i64 x1, .int .i64 x2, .string rc, .string x4, .string x5] 38))
        obtain ⟨xb, hxb⟩ : ∃ xb, xb = wr.heap.size := ⟨_, rfl⟩
        clear hrT hx hn1 hn2 hn3
        go_upto_region 13 with (fail)
        rw [← hxb] at HXB ⊢
        clear hxb d0 d1 d2 d3 d4
        generalize wr.alloc (.cells #[.int .i64 x1, .int .i64 x2, .string rc, .string x4, .string x5] 38) = WX at *
        have b2 := blk_cell HXB.out.blk0 2
        simp only [List.getElem?_toArray, List.getElem?_cons_zero, List.getElem?_cons_succ] at b2
        have HQ6 := Lib.hid HXB.out.up4
        have lk := lookR HQ6.out.aMap hgz
        rw [hmg] at lk
        dsimp only [Option.getD] at lk
        clear hmg
        go_wp2_with (refine wpList_put_at (K := KG) (enc := _root_.id) HQ6.out.aMap (by rfl) (.tmp 59) (.tmp 61) (.const (.bool true)) 71 4 rfl under71 hll rfl rc (.bool true) rfl rfl hgz ?_; intro w8 hM8 hB8; have HP8 := Lib.hid (HQ6.out.aMapUse.2 w8 _ hM8 hB8); clear hM8 hB8)
        refine ⟨⟨q + 1, mput ts2 rc (.bool true), by simp, by omega, Lib.hid ⟨HTL.out, by have := hF2.out.2; have := mput_len ts2 rc (.bool true); omega⟩, HP8.out.swap.tail.down3⟩, ?_⟩
        simp [intOf]
        omega
    case neg =>
    have he2 : (kind == 2) = false := by simpa using h2
    clear h2
    obtain ⟨σ2, hσ2⟩ : ∃ s, s = qDoes σ kind num num2 body group key rec qa := ⟨_, rfl⟩
    have hdo := fun (w1 : World) (Ps : List Asn) (h : Hp w w1 (ABlk ob (.cells #[.int .i64 kind, .int .i64 num, .int .i64 num2, .string body, .string group, .string key, .string rec, .int .i64 qa.vis, .int .i64 qa.ret, .int .i64 qa.del, .int .i64 qa.win, .int .i64 qa.max, .string qa.dead, .bool qa.fifo] 52) :: AQu qb σ j :: Ps)) => h.doesFresh HR.out.symm (show RecOk w j by unfold RecOk; omega) (by omega) kind num num2 body group key rec qa hgs hks
    rw [HR0.out, show opVal kind num num2 body group key rec qa = .agg #[.int .i64 kind, .int .i64 num, .int .i64 num2, .string body, .string group, .string key, .string rec, .int .i64 qa.vis, .int .i64 qa.ret, .int .i64 qa.del, .int .i64 qa.win, .int .i64 qa.max, .string qa.dead, .bool qa.fifo] from rfl, ← hσ2] at hdo
    have HDO := Lib.hid hdo
    have HS2 := Lib.hid hσ2
    clear hdo hσ2
    go_wp2_with fail
    clear o0 o1 o2 o3 o4 o5 o6 o7 o8 o9 o10 o11 o12 o13
    have HPd := Lib.hid (HA.out.below (Below.refl _ _).drew)
    refine start_ (n := 6) (S := fun w' => w'.heap[ob]? = some (.cells #[.int .i64 kind, .int .i64 num, .int .i64 num2, .string body, .string group, .string key, .string rec, .int .i64 qa.vis, .int .i64 qa.ret, .int .i64 qa.del, .int .i64 qa.win, .int .i64 qa.max, .string qa.dead, .bool qa.fifo] 52) ∧ w'.heap[w.heap.size]? = some (.cells #[.int .i64 av, .int .i64 ar, .int .i64 ad, .int .i64 ai, .int .i64 am, .string az, .bool af] 23)) (ds := []) #[false, false, false, false, false, false] (by kernel_rfl) rfl rfl (⟨HPd.out.blk0, HPd.out.blk2⟩) (fun hHeld => ?_)
    generalize W.drew = wd at *
    refine pure_ (i := 0) (N := (some 63)) (v := ?_) (a' := ?_) #[true, false, false, false, false, false] rfl rfl (by kernel_rfl) (fun _ _ _ h => h) (Or.inl ⟨by rfl, ?_⟩) ?_ ?_
    rotate_left
    · intro w'
      go_simp
      with_reducible rfl
    rotate_left
    · simp only [Act.put, List.setIfInBounds_toArray, List.set_cons_zero, List.set_cons_succ, i64_w, i32_w]
      rfl
    refine take_ (i := 1) (N := (some 64)) (v := ?_) (a' := ?_) #[true, true, false, false, false, false] rfl rfl (by kernel_rfl) (fun _ _ _ h => h) (Or.inl ⟨by rfl, ?_⟩) hHeld ?_ ?_
    rotate_left
    · rintro w' ⟨so, sb⟩
      obtain ⟨g0, g1, g2, g3, g4, g5, g6⟩ := box7 sb
      go_simp
      with_reducible rfl
    rotate_left
    · simp only [Act.put, List.setIfInBounds_toArray, List.set_cons_zero, List.set_cons_succ, i64_w, i32_w]
      rfl
    refine take_ (i := 4) (N := (some 67)) (v := ?_) (a' := ?_) #[true, true, false, false, true, false] rfl rfl (by kernel_rfl) (fun _ _ _ h => h) (Or.inl ⟨by rfl, ?_⟩) hHeld ?_ ?_
    rotate_left
    · rintro w' ⟨so, sb⟩
      obtain ⟨g0, g1, g2, g3, g4, g5, g6, g7, g8, g9, g10, g11, g12, g13⟩ := blk14 so
      go_simp
      with_reducible rfl
    rotate_left
    · simp only [Act.put, List.setIfInBounds_toArray, List.set_cons_zero, List.set_cons_succ, i64_w, i32_w]
      rfl
    refine one_ (i := 2) (N := some 65) #[true, true, true, false, true, false] rfl rfl (by kernel_rfl) (by decide) (fun K hK => ?_)
    refine goes_ Tryz.func24 (by kernel_rfl) rfl #[.agg #[.int .i64 av, .int .i64 ar, .int .i64 ad, .int .i64 ai, .int .i64 am, .string az, .bool af]] (by rfl) rfl rfl (by first | rfl | (go_simp; done) | (simp [Act.eval]; done) | (simp [Act.eval]; rfl)) ?_
    refine Calls.mono (HLA.out wd) ?_
    rintro e w4 ⟨rfl, hB4⟩
    have HD4 := Lib.hid (HPd.out.below hB4)
    clear hB4
    refine ⟨_, rfl, ?_⟩
    refine hK.out _ _ ⟨HD4.out.blk0, HD4.out.blk2⟩ (fun hHeld => ?_)
    clear hK K
    refine norm_ (a' := ?_) ?_ ?_
    rotate_left
    · show Act.put _ (some 65) _ = _
      simp only [Act.put, List.setIfInBounds_toArray, List.set_cons_zero, List.set_cons_succ, i64_w, i32_w]
      rfl
    refine one_ (i := 3) (N := some 66) #[true, true, true, true, true, false] rfl rfl (by kernel_rfl) (by decide) (fun K hK => ?_)
    refine goes_ Tryz.func23 (by kernel_rfl) rfl #[.agg #[.int .i64 av, .int .i64 ar, .int .i64 ad, .int .i64 ai, .int .i64 am, .string az, .bool af]] (by rfl) rfl rfl (by first | rfl | (go_simp; done) | (simp [Act.eval]; done) | (simp [Act.eval]; rfl)) ?_
    refine Calls.mono (HRN.out w4) ?_
    rintro e w5 ⟨rfl, hB5⟩
    have HD5 := Lib.hid (HD4.out.below hB5)
    clear hB5
    rw [HR0.out]
    refine ⟨_, rfl, ?_⟩
    refine hK.out _ _ ⟨HD5.out.blk0, HD5.out.blk2⟩ (fun hHeld => ?_)
    clear hK K
    refine norm_ (a' := ?_) ?_ ?_
    rotate_left
    · show Act.put _ (some 66) _ = _
      simp only [Act.put, List.setIfInBounds_toArray, List.set_cons_zero, List.set_cons_succ, i64_w, i32_w]
      rfl
    refine one_ (i := 5) (N := some 68) #[true, true, true, true, true, true] rfl rfl (by kernel_rfl) (by decide) (fun K hK => ?_)
    refine goes_ Tryz.func22 (by kernel_rfl) rfl #[.pointer (some ⟨qb, 0, none⟩), .agg #[.int .i64 av, .int .i64 ar, .int .i64 ad, .int .i64 ai, .int .i64 am, .string az, .bool af, .int .i64 0, .int .i64 1, .slice none 0 0, .slice none 0 0], .agg #[.int .i64 kind, .int .i64 num, .int .i64 num2, .string body, .string group, .string key, .string rec, .int .i64 qa.vis, .int .i64 qa.ret, .int .i64 qa.del, .int .i64 qa.win, .int .i64 qa.max, .string qa.dead, .bool qa.fifo]] (by rfl) rfl rfl (by first | rfl | (go_simp; done) | (simp [Act.eval]; done) | (simp [Act.eval]; rfl)) ?_
    refine Calls.mono (HDO.out _ _ HD5.out) ?_
    rintro e w6 ⟨v, rfl, hP6⟩
    have HD6 := Lib.hid hP6
    clear hP6
    refine ⟨_, rfl, ?_⟩
    refine hK.out _ _ ⟨HD6.out.blk0, HD6.out.blk2⟩ (fun hHeld => ?_)
    clear hK K
    refine norm_ (a' := ?_) ?_ ?_
    rotate_left
    · show Act.put _ (some 68) _ = _
      simp only [Act.put, List.setIfInBounds_toArray, List.set_cons_zero, List.set_cons_succ, i64_w, i32_w]
      rfl
    refine done_ (by kernel_rfl) ?_
    have HI2 := Lib.hid (show QInv σ2 (j + 1) by rw [HS2.out]; exact hI.out.does _ _ _ _ _ _ _ _)
    have HRI := Lib.hid (show RInv σ2 (ts.map (·.1)) by rw [HS2.out]; exact hF.out.1.does hI.out _ _ _ _ _ _ _ _)
    obtain ⟨ln, hln⟩ : ∃ ln, ln = σ2.l.length := ⟨_, rfl⟩
    have HLN := Lib.hid hln
    have hln1 : ln ≤ 1024 := by rw [hln]; exact HI2.out.len
    clear hln
    have HQ7 := Lib.hid HD6.out.tail.up2
    go_upto_region 18 with (fail)
    obtain ⟨rb, hrb⟩ : ∃ rb, rb = w6.heap.size := ⟨_, rfl⟩
    go_wp2_with (refine wpList_range_at (K := KG) (enc := _root_.id) HQ7.out.aMap (by rfl) (.tmp 69) 71 4 rfl under71 rfl ?_; intro w7 hR7 hB7 hz7)
    have HR7 := Lib.hid (HQ7.out.aRgStart hR7 hB7 hrb)
    clear hR7 hB7 hz7
    rw [← hrb]
    clear hrb
    go_frame
    go_loopg [] ts.length (fun gn wr => ∃ todo : List (ByteArray × Value), todo.length = gn ∧ Hp w wr (ARg KG _root_.id tm rb ts todo :: AQu qb σ2 (j + 1) :: ABlk w.heap.size (.cells #[.int .i64 av, .int .i64 ar, .int .i64 ad, .int .i64 ai, .int .i64 am, .string az, .bool af] 23) :: []))
    case atStart => exact ⟨ts, rfl, HR7.out⟩
    case round =>
      obtain ⟨todo, rfl, hQ⟩ := hrel
      have HQ5 := Lib.hid hQ
      clear hQ
      obtain ⟨hra, hrn⟩ := HQ5.out.aRgNext
      have HRA := Lib.hid hra
      have HRN := Lib.hid hrn
      clear hra hrn
      go_wp2_with (refine wpList_next_at (K := KG) (enc := _root_.id) HRA.out (by rfl) (.tmp 70) rfl rfl ?_ ?_)
      · intro htodo
        clear htodo
        have HEND := Lib.hid HQ5.out.aRgEnd
        go_wp2_with fail
        refine ⟨⟨j + 1, σ2, ts, by simp, by omega, HI2, Lib.hid ⟨HRI.out, by have := hF.out.2; omega⟩, HEND.out.down2⟩, ?_⟩
        simp [intOf]
        omega
      · intro c x todo' w8 hperm hmem hok8 hR8 hB8 hent
        have HP8 := Lib.hid (HRN.out w8 todo' hR8 hB8)
        have hlen := hperm.length_eq
        rw [List.length_cons] at hlen
        clear hR8 hB8 hperm hmem
        go_wp2_with fail
        refine Calls.mono (HP8.out.swap.quIds (by omega)) ?_
        rw [← HLN.out]
        rintro e w9 ⟨A9, c9, rfl, hP⟩
        have HP9 := Lib.hid hP.tail
        clear hP hent
        go_wp2_with fail
        refine Calls.mono (HP9.out.quCopy (by omega)) ?_
        rintro e w10 ⟨cb, rfl, hP⟩
        have HP10 := Lib.hid hP
        clear hP
        obtain ⟨ak, hak⟩ : ∃ a, a = qAck σ2 c := ⟨_, rfl⟩
        have HAC := Lib.hid (show (∃ m ∈ σ2.l, m.leased = true ∧ ak = (qDrop σ2 m.id, (m.id, 0))) ∨ (qBy σ2 c = none ∧ ak = (σ2, (0, 8))) by rw [hak]; exact ack_cases c)
        have HAK := Lib.hid hak
        clear hak
        go_wp2_with fail
        refine Calls.mono (HP10.out.quAck (show RecOk w (j + 1) by unfold RecOk; omega) c) ?_
        rw [← HAK.out]
        rcases HAC.out with ⟨m, hm, hl, rfl⟩ | ⟨hnone, rfl⟩
        case inl =>
          rintro e w11 ⟨rfl, hP⟩
          have HP11 := Lib.hid hP
          clear hP
          have hids := HI2.out.ids m hm
          have hnx := HI2.out.nxt
          have hwf : (Lit.int .i64 m.id).wf = true := wf_id (by omega)
          have hls := qLs_of HI2.out hm
          rw [hl, if_pos rfl] at hls
          have HLS := Lib.hid hls
          have hdl := drop_len HI2.out hm
          rw [← HLN.out] at hdl
          obtain ⟨ln1, hln2⟩ : ∃ l, l = (qDrop σ2 m.id).l.length := ⟨_, rfl⟩
          have HL1 := Lib.hid hln2
          rw [← hln2] at hdl
          have hne : ((ln1 : Int) != (ln : Int) - 1) = false := by
            have : (ln1 : Int) = (ln : Int) - 1 := by omega
            simpa using this
          have HI11 := HP11.out.swap
          clear hls hln2 hm hl hids hnx
          dsimp only
          go_wp2_with fail
          refine Calls.mono (HP11.out.swap.quLeased m.id hwf) ?_
          rw [HLS.out]
          rintro e w12 ⟨rfl, rfl⟩
          dsimp only
          go_wp2_with (go_at_call 25; refine Calls.mono (HP11.out.quIds (by omega)) ?_; rw [← HL1.out]; rintro e w12 ⟨A12, c12, rfl, hP⟩; have HP12 := Lib.hid hP.tail.tail; clear hP)
          go_roundg todo'.length
          case rel => exact ⟨todo', rfl, HP12.out.swap⟩
          case measure => omega
        case inr =>
          rintro e w11 ⟨rfl, hP⟩
          have HP11 := Lib.hid hP
          clear hP
          have hwf : (Lit.int .i64 0).wf = true := by decide
          have HEX := Lib.hid (ext_none hnone)
          clear hnone
          dsimp only
          obtain ⟨ls, hls⟩ : ∃ l, l = qLs σ2 0 := ⟨_, rfl⟩
          have HLS := Lib.hid hls
          clear hls
          go_wp2_with fail
          refine Calls.mono (HP11.out.swap.quLeased 0 hwf) ?_
          rw [← HLS.out]
          rintro e w12 ⟨rfl, rfl⟩
          go_wp2_with (first | (go_at_call 25; refine Calls.mono (HP11.out.quIds (by omega)) ?_; rw [← HLN.out]; rintro e w12 ⟨A12, c12, rfl, hP⟩; have HP12 := Lib.hid hP.tail; clear hP) | (go_at_call 19; refine Calls.mono (HP12.out.quExt (show RecOk w (j + 1) by unfold RecOk; omega) c 5) ?_; rw [HEX.out]; rintro e w13 ⟨rfl, hP⟩; have HP13 := Lib.hid hP.tail; clear hP))
          go_roundg todo'.length
          case rel => exact ⟨todo', rfl, HP13.out.swap⟩
          case measure => omega
theorem receipts_law (a : QA) (A : Option Addr) (n cap : Nat) (xs : List QOp) (w : World) (hC : KQOp.C w A n xs) (_ : n ≤ cap) (hok : ∀ x ∈ xs, opWf x) :
    Calls Tryz.prog 10 #[a.val, .slice A n cap] w fun e w' => e = .returned (.bool true) ∧ Below w.heap.size w w' := receipts_at a A n cap xs w hC hok
end Go.Proofs.YtoclcmnphdgfpaaGreatDoor
