/- The statement TimerNext of layer 5: every call of it tells true and leaves what was there as it was. -/
import Derived.Test.YtihmblkfbcnllaaTmTR
import Derived.Test.YtihmblkfbcnllaaOpen
namespace Go.Proofs.Ytihmblkfbcnllaa
open Go.RowKit Go.Proofs.YtihmblkfbcnllaaW.PrintWords

/-- A call, as it lies in memory: Kind, Id, At. -/
def KOp : Kd (Int × (Int × Int)) := Kd.pair (Kd.int .i64) (Kd.pair (Kd.int .i64) (Kd.int .i64))
theorem C_nth_op {w : World} {A : Option Addr} {n : Nat} {xs : List (Int × (Int × Int))} (h : KOp.C w A n xs) (k : Nat) (hk : k < n) :
    ∃ ad kind id t, A = some ad ∧ xs[k]? = some (kind, (id, t)) ∧ w.cell? (ad.add (k * 3)) = some (.int .i64 kind) ∧ w.cell? ⟨(ad.add (k * 3)).block, (ad.add (k * 3)).off + 1, none⟩ = some (.int .i64 id) ∧ w.cell? ⟨(ad.add (k * 3)).block, (ad.add (k * 3)).off + 2, none⟩ = some (.int .i64 t) := by
  obtain ⟨ad, ⟨kind, id, t⟩, c, hA, hx, _, ⟨c0, c1, rfl, h0, ⟨c2, c3, rfl, h2, h4⟩⟩, h3⟩ := C_nth h k hk
  have h0 : c0 = [.int .i64 kind] := h0
  have h2 : c2 = [.int .i64 id] := h2
  have h4 : c3 = [.int .i64 t] := h4
  subst h0 h2 h4
  refine ⟨ad, kind, id, t, hA, hx, ?_, ?_, ?_⟩
  · have := h3 0 _ rfl; exact this
  · have := h3 1 _ rfl; rw [← add_field ad _ 1 (by omega)]; exact this
  · have := h3 2 _ rfl; rw [← add_field ad _ 2 (by omega)]; exact this
theorem itAt_snoc {l : List It} {x : It} {id : Int} (hn : ((l ++ [x]).map (·.1)).Nodup) : itAt (l ++ [x]) id = if x.1 = id then (x.2, true) else itAt l id := by
  by_cases h : x.1 = id
  · rw [if_pos h]
    obtain ⟨a, b⟩ := x
    simp only at h
    subst h
    exact itAt_some hn (by simp)
  · rw [if_neg h]
    unfold itAt
    rw [List.find?_append]
    have : [x].find? (fun p => decide (p.1 = id)) = none := by simp [h]
    rw [this, Option.or_none]
theorem tSet_first (s : List It) (id t : Int) : ∃ y r, tSet s id t = y :: r := by
  cases h : tSet s id t with
  | nil =>
    have h2 := congrArg List.length h
    unfold tSet at h2
    rw [(tIns_perm _ _).length_eq] at h2
    simp at h2
  | cons y r => exact ⟨y, r, rfl⟩

set_option maxHeartbeats 1600000 in
set_option maxRecDepth 100000 in
theorem next_law (A : Option Addr) (n cap : Nat) (ops : List (Int × (Int × Int))) (id : Int) (w : World) (hC : KOp.C w A n ops) (hc : n ≤ cap) (ho : ∀ x ∈ ops, (Lit.int .i64 x.1).wf = true ∧ (Lit.int .i64 x.2.1).wf = true ∧ (Lit.int .i64 x.2.2).wf = true) (hid : (Lit.int .i64 id).wf = true) :
    Calls Try.prog 3 #[.slice A n cap, .int .i64 id] w fun e w' => e = .returned (.bool true) ∧ Below w.heap.size w w' := by
  have HN := Lib.hid (Kd.C_len hC)
  have HC := Lib.hid hC
  have HO := Lib.hid ho
  have hm1 := Kd.C_max hC
  clear hC ho
  by_cases h80 : 80 < n
  · have h80i : (80 : Int) < n := by omega
    go_enter Try.func3, Try.ntmps3
    go_wp2_with (go_at_call 9; refine Calls.mono (awake_any _) ?_; rintro e w1 ⟨rfl, hB⟩)
    go_ret
    exact ⟨rfl, hB⟩
  · have h80i : ¬ (80 : Int) < n := by omega
    go_enter Try.func3, Try.ntmps3
    go_wp2_with fail
    refine Calls.mono (TR_new w _ (Below.refl _ _)) ?_
    rintro e w1 ⟨rfl, hP1⟩
    generalize w.heap.size + 1 = tb at *
    have HP1 := Lib.hid hP1
    clear hP1
    go_wp2_with fail
    go_loopw [6, 28] (fun v i wr => ∃ (k : Nat) (s : List It), i = .int .i64 k ∧ k ≤ n ∧ TR w wr tb v s s [] ∧ s.length ≤ k) (fun _ i _ => n - (intOf i).toNat)
    case atStart => exact ⟨0, [], rfl, Nat.zero_le _, HP1.out, Nat.le_refl _⟩
    case round =>
      obtain ⟨k, s, rfl, hk, hTR, hsl⟩ := hrel
      have HTR := Lib.hid hTR
      clear hTR
      by_cases hlt : k < n
      · obtain ⟨ad, kind, oid, ot, rfl, hx, hf0, hf1, hf2⟩ := C_nth_op (Kd.C_below HC.out HTR.out.belowW) k hlt
        have hwo := (HO.out _ (List.mem_of_getElem? hx)).2.1
        have i0 : (0 : Int) ≤ (k : Int) := by omega
        have i1 : (k : Int) < (n : Int) := by omega
        clear hx
        obtain ⟨Ar, cr, rfl, hcr, hCr⟩ := HTR.out.row
        clear hCr
        have hbl : wr.heap.size < (wr.alloc (.cells #[.int .i64 kind, .int .i64 oid, .int .i64 ot] 28)).heap.size := by simp
        by_cases hk1 : kind = 1
        · have hkb : (kind == 1) = true := by simp [hk1]
          clear hk1
          go_wp2_with fail
          refine Calls.mono ((HTR.out.alloc _).drop oid hwo (by omega)) ?_
          rintro e w2 ⟨rfl, hT2⟩
          have hb := hT2.get (List.mem_cons_self ..)
          have b1 := blk_cell hb 1
          simp only [List.getElem?_toArray, List.getElem?_cons_succ, List.getElem?_cons_zero] at b1
          have HT2 := Lib.hid hT2
          clear hT2 hb
          go_wp2_with fail
          refine Calls.mono (HT2.out.refDrop rfl oid (by omega)) ?_
          rintro e w3 ⟨A3, c3, rfl, hT3⟩
          have HT3 := Lib.hid hT3.forget
          have hdl := tDrop_len s oid
          clear hT3
          go_wp2_with fail
          refine ⟨⟨k + 1, tDrop s oid, by simp, by omega, HT3.out, by omega⟩, ?_⟩
          simp [intOf]
          omega
        · have hkb : (kind == 1) = false := by simp [hk1]
          clear hk1
          go_wp2_with fail
          refine Calls.mono ((HTR.out.alloc _).set oid ot hwo (by omega)) ?_
          rintro e w2 ⟨rfl, hT2⟩
          have hb := hT2.get (List.mem_cons_self ..)
          have b1 := blk_cell hb 1
          have b2 := blk_cell hb 2
          simp only [List.getElem?_toArray, List.getElem?_cons_succ, List.getElem?_cons_zero] at b1 b2
          have HT2 := Lib.hid hT2
          clear hT2 hb
          go_wp2_with fail
          refine Calls.mono (HT2.out.refSet rfl oid ot (by omega)) ?_
          rintro e w3 ⟨A3, c3, rfl, hT3⟩
          have HT3 := Lib.hid hT3.forget
          have hsl2 := tSet_len s oid ot
          clear hT3 b1 b2
          go_wp2_with fail
          refine Calls.mono HT3.out.next ?_
          rintro e w4 ⟨rfl, hT4⟩
          obtain ⟨y, r', hy⟩ := tSet_first s oid ot
          obtain ⟨A4, c4, hv4, hc4, hC4⟩ := hT4.row
          obtain ⟨ad4, y', rfl, hy', d0, d1⟩ := C_nth_it (hC4) 0 (by rw [hy]; simp)
          obtain rfl : y = y' := by rw [hy] at hy'; simpa using hy'
          injection hv4 with hv4 hv5 hv6
          subst hv4 hv6
          rw [show itFirst (tSet s oid ot) = (y, true) by rw [hy]; rfl]
          simp [Addr.add] at d0 d1
          have hpos : (0 : Int) < ((tSet s oid ot).length : Int) := by rw [hy]; simp
          have hya : (y.1 != y.1) = false := by simp
          have hyb : (y.2 != y.2) = false := by simp
          have HT4 := Lib.hid hT4
          clear hT4 hC4 hv5 hy hy'
          go_wp2_with fail
          have hB5 : Below w4.heap.size w4 (w4.alloc (.cells #[.int .i64 y.1, .int .i64 y.2] 34)) := below_alloc (Below.refl _ _) _
          have hb5 := heap_alloc_new w4 (.cells #[.int .i64 y.1, .int .i64 y.2] 34)
          replace d0 := pw_cell_below hB5 d0
          replace d1 := pw_cell_below hB5 d1
          have HT5 := Lib.hid (HT4.out.below hB5)
          generalize w4.alloc (.cells #[.int .i64 y.1, .int .i64 y.2] 34) = w5 at *
          have c0 := blk_cell hb5 0
          have c1 := blk_cell hb5 1
          simp only [List.getElem?_toArray, List.getElem?_cons_succ, List.getElem?_cons_zero] at c0 c1
          clear hb5 hB5
          go_quiet (fail)
          go_wp2_with fail
          refine ⟨⟨k + 1, tSet s oid ot, by simp, by omega, HT5.out.below (pw_below_drewN (Below.refl _ _) _), by omega⟩, ?_⟩
          simp [intOf]
          omega
      · have hkn : k = n := by omega
        subst hkn
        go_wp2_with fail
        refine Calls.mono (HTR.out.at_ id hid) ?_
        rintro e w2 ⟨rfl, rfl⟩
        obtain ⟨Ar, cr, rfl, hcr, hCr⟩ := HTR.out.row
        have HCr := Lib.hid hCr
        have hlm := Kd.C_max hCr
        have HNP := Lib.hid HTR.out.trow.2
        clear hCr
        go_wp2_with fail
        go_loopw [13, 14, 89] (fun a b i wq => ∃ j : Nat, i = .int .i64 j ∧ j ≤ s.length ∧ a = .int .i64 (itAt (s.take j) id).1 ∧ b = .bool (itAt (s.take j) id).2 ∧ Below wr.heap.size wr wq) (fun _ _ i _ => s.length - (intOf i).toNat)
        case atStart => exact ⟨0, rfl, Nat.zero_le _, rfl, rfl, Below.refl _ _⟩
        case round =>
          obtain ⟨j, rfl, hj, rfl, rfl, hB⟩ := hrel
          have HB := Lib.hid hB
          clear hB
          by_cases hjl : j < s.length
          · obtain ⟨ad, x, rfl, hx, d0, d1⟩ := C_nth_it (Kd.C_below HCr.out HB.out) j hjl
            have htk : s.take (j + 1) = s.take j ++ [x] := by rw [List.take_add_one, hx]; rfl
            have hsn : itAt (s.take (j + 1)) id = if x.1 = id then (x.2, true) else itAt (s.take j) id := by
              rw [htk]
              refine itAt_snoc ?_
              rw [← htk]
              exact (List.Sublist.map _ (List.take_sublist _ _)).nodup HNP.out
            have HSN := Lib.hid hsn
            have i0 : (0 : Int) ≤ (j : Int) := by omega
            have i1 : (j : Int) < (s.length : Int) := by omega
            clear htk hsn hx
            by_cases hxi : x.1 = id
            · have hxb : (x.1 == id) = true := by simp [hxi]
              go_wp2_with fail
              refine ⟨⟨j + 1, by simp, by omega, by rw [HSN.out, if_pos hxi], by rw [HSN.out, if_pos hxi], HB.out.trans ((below_alloc (Below.refl _ _) _).mono HB.out.size)⟩, ?_⟩
              simp [intOf]
              omega
            · have hxb : (x.1 == id) = false := by simp [hxi]
              go_wp2_with fail
              refine ⟨⟨j + 1, by simp, by omega, by rw [HSN.out, if_neg hxi], by rw [HSN.out, if_neg hxi], HB.out.trans ((below_alloc (Below.refl _ _) _).mono HB.out.size)⟩, ?_⟩
              simp [intOf]
              omega
          · have hjn : j = s.length := by omega
            subst hjn
            rw [List.take_length]
            generalize itAt s id = p at *
            obtain ⟨p1, p2⟩ := p
            have hp1 : (p1 == p1) = true := by simp
            have hp2 : (p2 == p2) = true := by simp
            go_wp2_with fail
            refine Calls.mono (HTR.out.below HB.out).next ?_
            rintro e w4 ⟨rfl, hT4⟩
            have hfl : (itFirst s).2 = decide ((0 : Int) < (s.length : Int)) := by
              cases s with
              | nil => rfl
              | cons y r => simp [itFirst]
            rw [hfl]
            have HT4 := Lib.hid hT4.belowW
            generalize itFirst s = q at *
            have hq : (decide ((0 : Int) < (s.length : Int)) == decide ((0 : Int) < (s.length : Int))) = true := by simp
            clear hfl hT4
            go_wp2_with (go_at_call 9; refine Calls.mono (awake_any _) ?_; rintro e w5 ⟨rfl, hB5⟩)
            go_ret
            exact ⟨rfl, (below_alloc HT4.out _).trans (hB5.mono (below_alloc HT4.out _).size)⟩
end Go.Proofs.Ytihmblkfbcnllaa
