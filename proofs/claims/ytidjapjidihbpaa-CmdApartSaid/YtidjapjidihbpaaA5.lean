/- Put together: cmd.Read by its contract. -/
import Derived.Test.YtidjapjidihbpaaA4
import Derived.Laws.Tables
import Derived.Laws.Rows
set_option linter.unusedVariables false
set_option linter.unusedSimpArgs false
set_option linter.unusedVariables false
set_option linter.unusedSimpArgs false
namespace Go.Proofs.Ytidjapjidihbpaa
open Go.RowKit Go.Proofs.YtidjapjidihbpaaW.PrintWords Go.Proofs.YtidjapjidihbpaaW.PrintLast
theorem info_str : (Try.prog.info? 9).map (fun i => (i.zero, i.size, i.bytes)) = some (some (.string ⟨#[]⟩), 1, 16) := by kernel_rfl
theorem info_cmd : (Try.prog.info? 26).map (·.size) = some 18 := by kernel_rfl
theorem zero_one : ((Cm.zero.cells (.slice none 0 0) 0)).all (·.oneCell') = true := by simp [Cm.cells, Cm.zero, Value.oneCell']
/-- Values laid one by one at places of a block. -/
def putAt (os : List Nat) (vs : List Value) (cs : Array Value) : Array Value := (os.zip vs).foldl (fun c p => c.setIfInBounds p.1 p.2) cs
theorem zip_snoc : ∀ {os : List Nat} {vs : List Value} {o : Nat} {v : Value}, os[vs.length]? = some o → os.zip (vs ++ [v]) = os.zip vs ++ [(o, v)]
  | [], vs, _, _, h => by simp at h
  | o' :: os, [], o, v, h => by
    obtain rfl : o' = o := by simpa using h
    simp
  | o' :: os, w :: vs, o, v, h => by
    rw [List.length_cons, List.getElem?_cons_succ] at h
    rw [List.cons_append, List.zip_cons_cons, zip_snoc h, List.zip_cons_cons, List.cons_append]
theorem putAt_snoc {os : List Nat} {vs : List Value} {cs : Array Value} {o : Nat} {v : Value} (h : os[vs.length]? = some o) : putAt os (vs ++ [v]) cs = (putAt os vs cs).setIfInBounds o v := by
  unfold putAt
  rw [zip_snoc h, List.foldl_append]
  rfl
theorem foldl_size : ∀ (l : List (Nat × Value)) (cs : Array Value), (l.foldl (fun c p => c.setIfInBounds p.1 p.2) cs).size = cs.size
  | [], _ => rfl
  | p :: l, cs => by rw [List.foldl_cons, foldl_size l, Array.size_setIfInBounds]
theorem putAt_cell {os : List Nat} {vs : List Value} {cs : Array Value} (o : Nat) (h : o < cs.size) : ∃ v, (putAt os vs cs)[o]? = some v := by
  have hs : (putAt os vs cs).size = cs.size := foldl_size _ _
  exact ⟨_, Array.getElem?_eq_getElem (by rw [hs]; exact h)⟩
theorem numAt_lt {k off : Nat} (h : numAt[k]? = some off) : off < 18 := by
  have := List.mem_of_getElem? h
  simp only [numAt, List.mem_cons, List.not_mem_nil, or_false] at this
  omega
theorem textAt_lt {k off : Nat} (h : textAt[k]? = some off) : off < 18 := by
  have := List.mem_of_getElem? h
  simp only [textAt, List.mem_cons, List.not_mem_nil, or_false] at this
  omega
theorem ten {α : Type} {l : List α} (h : l.length = 10) : ∃ a0 a1 a2 a3 a4 a5 a6 a7 a8 a9, l = [a0, a1, a2, a3, a4, a5, a6, a7, a8, a9] := by
  match l, h with
  | [a0, a1, a2, a3, a4, a5, a6, a7, a8, a9], _ => exact ⟨a0, a1, a2, a3, a4, a5, a6, a7, a8, a9, rfl⟩
theorem six {α : Type} {l : List α} (h : l.length = 6) : ∃ a0 a1 a2 a3 a4 a5, l = [a0, a1, a2, a3, a4, a5] := by
  match l, h with
  | [a0, a1, a2, a3, a4, a5], _ => exact ⟨a0, a1, a2, a3, a4, a5, rfl⟩
theorem nums_put (x0 x1 x2 x3 x4 x5 x6 x7 x8 x9 : Int) : putAt numAt ([x0, x1, x2, x3, x4, x5, x6, x7, x8, x9].map (Value.int .i64)) (Cm.zero.cells (.slice none 0 0) 0) = #[.int .i64 x0, .int .i64 x1, .int .i64 x2, .string ⟨#[]⟩, .int .i64 x5, .int .i64 x6, .int .i64 x7, .int .i64 x8, .int .i64 x9, .string ⟨#[]⟩, .bool false, .string ⟨#[]⟩, .string ⟨#[]⟩, .string ⟨#[]⟩, .string ⟨#[]⟩, .slice none 0 0, .int .i64 x3, .int .i64 x4] := by kernel_rfl
theorem texts_put (a0 a1 a2 a3 a4 a5 a6 a7 a8 a9 aa ab ac ad ae af ag ah : Value) (t0 t1 t2 t3 t4 t5 : ByteArray) : putAt textAt ([t0, t1, t2, t3, t4, t5].map Value.string) #[a0, a1, a2, a3, a4, a5, a6, a7, a8, a9, aa, ab, ac, ad, ae, af, ag, ah] = #[a0, a1, a2, .string t0, a4, a5, a6, a7, a8, .string t1, aa, .string t2, .string t3, .string t4, .string t5, af, ag, ah] := by kernel_rfl
section
variable {w0 w : World} {Ps : List Asn}
theorem Hp.setRowBlk {g t : Nat} {old : Array Value} (h : Hp w0 w (ABlk g (.cells old t (0, 0)) :: Ps)) (cs : Array Value) : Hp w0 (w.setRow g cs) (ABlk g (.cells cs t (0, 0)) :: Ps) := by
  obtain ⟨S1, h1, h2⟩ := h.use1
  exact h2 _ (ABlk g (.cells cs t (0, 0))) ⟨rfl, rfl, rfl, by simp, fun k hk hn => setRow_other _ _ _ _ (fun e => hn (e ▸ h1.1))⟩ ⟨.inl h1.1, setRow_heap _ _ _ _ _ _ h1.2⟩
end
theorem results_cell_slot {P : Program} {fn : Func} {p q : Tmp} {ty : TypeId} (h : fn.results = #[.cell p ty, .tmp q]) (tmps : Array Value) (w : World) (g : Nat) (t : TypeId) (cs : Array Value) (fr : Nat × Nat) (d : TypeDesc)
    (hp : tmps.getD p undef = .pointer (some ⟨g, 0, none⟩)) (hg : w.heap[g]? = some (.cells cs t fr))
    (hu : P.underlying ty = some d) (hd : (match d with | .struct _ | .array _ _ => true | _ => false) = true) (hi : (P.info? ty).map (·.size) = some cs.size) (v : Value) (hv : tmps.getD q undef = v) :
    (results fn tmps).run P w = .ok (.tuple #[.agg cs, v]) w := by
  have hp' : tmps[p]?.getD undef = .pointer (some ⟨g, 0, none⟩) := by simpa using hp
  have hv' : tmps[q]?.getD undef = v := by simpa using hv
  simp [results, h, hp', hv', asAddr, run_loadVar_row w g t ty cs fr d hg hu hd hi, Result.andThen]
/-- Rows of pointers into a command, as blocks. -/
def ptrs (gb : Nat) (os : List Nat) : Array Value := (os.map (fun off => Value.pointer (some ⟨gb, off, none⟩))).toArray
set_option maxHeartbeats 1600000 in
set_option maxRecDepth 100000 in
theorem numbers_blk (gb : Nat) (v0 : Value) (w : World) (h0 : w.cell? ⟨gb, 0, none⟩ = some v0) : Calls Try.prog 14 #[.pointer (some ⟨gb, 0, none⟩)] w fun e w' => ∃ g, e = .returned (.slice (some ⟨g, 0, none⟩) 10 10) ∧ w.heap.size ≤ g ∧ w'.heap[g]? = some (.cells (ptrs gb numAt) 55 (0, 0)) ∧ Below w.heap.size w w' := by
  go_enter Try.func14, Try.ntmps14
  go_wp2_with fail
  go_region_held3 (fun w' => w'.cell? ⟨gb, 0, none⟩ = some v0) (first | exact h0 | go_keep) (fail)
  all_goals
    go_wp2_with fail
    go_ret
    refine ⟨_, rfl, ?_, heap_alloc_new w _, ?_⟩
    · first | exact Nat.le_refl _ | simp
    · exact below_drew1 (below_alloc (Below.refl _ _) _)
set_option maxHeartbeats 1600000 in
set_option maxRecDepth 100000 in
theorem texts_blk (gb : Nat) (v0 : Value) (w : World) (h0 : w.cell? ⟨gb, 0, none⟩ = some v0) : Calls Try.prog 16 #[.pointer (some ⟨gb, 0, none⟩)] w fun e w' => ∃ g, e = .returned (.slice (some ⟨g, 0, none⟩) 6 6) ∧ w.heap.size ≤ g ∧ w'.heap[g]? = some (.cells (ptrs gb textAt) 59 (0, 0)) ∧ Below w.heap.size w w' := by
  go_enter Try.func16, Try.ntmps16
  go_wp2_with fail
  go_region_held3 (fun w' => w'.cell? ⟨gb, 0, none⟩ = some v0) (first | exact h0 | go_keep) (fail)
  all_goals
    go_wp2_with fail
    go_ret
    refine ⟨_, rfl, ?_, heap_alloc_new w _, ?_⟩
    · first | exact Nat.le_refl _ | simp
    · exact below_drew1 (below_alloc (Below.refl _ _) _)
theorem readCmd_bad {bs : List Int} (h : rsDone bs (rc5 bs).1 ≠ 0) : readCmd bs = (.zero, rsDone bs (rc5 bs).1) := by unfold readCmd; rw [if_neg h]
theorem readCmd_no {bs : List Int} (h : rsDone bs (rc5 bs).1 = 0) (h2 : ¬ (cmRight (rcCmd bs) = true ∧ encCmd (rcCmd bs) = bs)) : readCmd bs = (.zero, 2) := by unfold readCmd; rw [if_pos h, if_neg h2]
theorem readCmd_yes {bs : List Int} (h : rsDone bs (rc5 bs).1 = 0) (h1 : cmRight (rcCmd bs) = true) (h2 : encCmd (rcCmd bs) = bs) : readCmd bs = (rcCmd bs, 0) := by unfold readCmd; rw [if_pos h, if_pos ⟨h1, h2⟩]
/-- A command that was read, but its bodies. -/
theorem rc_cells (x0 x1 x2 x3 x4 x5 x6 x7 x8 x9 f : Int) (t0 t1 t2 t3 t4 t5 : ByteArray) (b : List ByteArray) (v : Value) (n : Int) : (Cm.of [x0, x1, x2, x3, x4, x5, x6, x7, x8, x9] f [t0, t1, t2, t3, t4, t5] b).cells v n = #[.int .i64 x0, .int .i64 x1, .int .i64 x2, .string t0, .int .i64 x5, .int .i64 x6, .int .i64 x7, .int .i64 x8, .int .i64 x9, .string t1, .bool (decide (f = 1)), .string t2, .string t3, .string t4, .string t5, v, .int .i64 n, .int .i64 x4] := rfl
set_option maxHeartbeats 3200000 in
set_option maxRecDepth 100000 in
theorem readCmd_any (A : Option Addr) (n cap : Nat) (bs : List Int) (w : World) (hA : Rd w A n cap bs) (hn : n ≤ 1000000) (hb : ByOk bs) :
    Calls Try.prog 10 #[.slice A n cap] w fun e w' => ∃ B m d ev, e = .returned (.tuple #[.agg ((readCmd bs).1.cells (.slice B m d) (readCmd bs).1.n), ev]) ∧ Kd.string.C w' B m (readCmd bs).1.bodies ∧ m ≤ d ∧ FaultV w' ev (readCmd bs).2 ∧ Below w.heap.size w w' := by
  have HA := Lib.hid hA
  have HB := Lib.hid hb
  obtain ⟨R, hR⟩ : ∃ R, R = readCmd bs := ⟨_, rfl⟩
  have HBAD := Lib.hid (readCmd_bad (bs := bs))
  have HNO := Lib.hid (readCmd_no (bs := bs))
  have HYES := Lib.hid (readCmd_yes (bs := bs))
  rw [← hR] at HBAD HNO HYES ⊢
  clear hA hb hR
  have hz1 : (w.alloc (.cells (Cm.zero.cells (.slice none 0 0) 0) 26)).heap.size = w.heap.size + 1 := by simp
  have hp0 := ((Hp.nil w).alloc (.cells (Cm.zero.cells (.slice none 0 0) 0) 26)).alloc (.cells (Cm.zero.cells (.slice none 0 0) 0) 26)
  rw [hz1] at hp0
  obtain ⟨cb, hcb⟩ : ∃ cb, cb = w.heap.size + 1 := ⟨_, rfl⟩
  rw [← hcb] at hp0
  have HP0 := Lib.hid hp0
  have HCB := Lib.hid hcb
  clear hp0 hz1 hcb
  go_enter Try.func10, Try.ntmps10
  go_upto_region 2 with (fail)
  rw [← HCB.out]
  change Code.wp _ _ _ _ ((w.alloc (.cells (Cm.zero.cells (.slice none 0 0) 0) 26)).alloc (.cells (Cm.zero.cells (.slice none 0 0) 0) 26))
  generalize (w.alloc (.cells (Cm.zero.cells (.slice none 0 0) 0) 26)).alloc (.cells (Cm.zero.cells (.slice none 0 0) 0) 26) = W0 at *
  go_wp2_with fail
  refine Calls.mono (HP0.out.rdOf (HA.out.below HP0.out.belowW).1 HA.out.2 hn HB.out) ?_
  rintro e w2 ⟨rb, rfl, hP⟩
  have HP2 := Lib.hid hP
  clear hP
  go_wp2_with fail
  refine Calls.mono (numbers_blk cb (.int .i64 0) w2 (blk_cell HP2.out.blk1 0)) ?_
  rintro e w3 ⟨g, rfl, hg1, hg2, hB3⟩
  obtain ⟨ad, had⟩ : ∃ ad : Addr, ad = ⟨g, 0, none⟩ := ⟨_, rfl⟩
  rw [← had]
  have HAD := Lib.hid had
  have HP3 := Lib.hid ((HP2.out.fresh (Q := ABlk g (.cells (ptrs cb numAt) 55 (0, 0))) hB3 ⟨hg1, hg2⟩).swap)
  clear had hg1 hg2 hB3
  go_wp2_with fail
  go_loopw [17] (fun i wr => ∃ (j : Nat) (s1 : Rs) (l1 : List Int), i = .int .i64 j ∧ j ≤ 10 ∧ Hid ((s1, l1) = rsMany (rsNum bs) j ⟨0, 0⟩) ∧ Hp w wr (ARd rb bs s1 :: ABlk g (.cells (ptrs cb numAt) 55 (0, 0)) :: ABlk cb (.cells (putAt numAt (l1.map (Value.int .i64)) (Cm.zero.cells (.slice none 0 0) 0)) 26 (0, 0)) :: ABlk w.heap.size (.cells (Cm.zero.cells (.slice none 0 0) 0) 26 (0, 0)) :: [])) (fun i _ => 10 - (intOf i).toNat)
  case atStart => exact ⟨0, ⟨0, 0⟩, [], rfl, Nat.zero_le _, Lib.hid rfl, HP3.out⟩
  case round =>
    obtain ⟨j, s1, l1, rfl, hj, hM, hQ⟩ := hrel
    have HQ := Lib.hid hQ
    have hl1 : l1.length = j := by
      have h := rsMany_len (rsNum bs) j ⟨0, 0⟩
      rw [← hM.out] at h
      exact h
    have HL1 := Lib.hid hl1
    clear hQ hl1
    by_cases hj10 : j < 10
    case pos =>
      have i0 : (0 : Int) ≤ (j : Int) := by omega
      have i1 : (j : Int) < 10 := by omega
      have hC : (KPtr cb).C wr (some ad) 10 numAt := by
        rw [HAD.out]
        exact C_block HQ.out.blk1 numAt (by unfold ptrs; rw [List.toList_toArray]) (by decide)
      obtain ⟨ad', off, e, hx, d0⟩ := C_nth_scalar hC j hj10
      obtain rfl : ad = ad' := Option.some.inj e
      have hol := numAt_lt hx
      have HSUC := Lib.hid (rsMany_succ (rsNum bs) j ⟨0, 0⟩)
      rw [← hM.out] at HSUC
      obtain ⟨⟨s2, x⟩, hr⟩ : ∃ r, r = rsNum bs s1 := ⟨_, rfl⟩
      have HX := Lib.hid hr
      have HOF := Lib.hid hx
      clear hC hx e hr
      go_wp2_with fail
      refine Calls.mono HQ.out.rdNum ?_
      rw [← HX.out]
      rintro e w4 ⟨rfl, hP⟩
      have HP4 := Lib.hid hP
      clear hP
      obtain ⟨old, hold⟩ := putAt_cell (os := numAt) (vs := l1.map (Value.int .i64)) (cs := (Cm.zero.cells (.slice none 0 0) 0)) off hol
      have hc4 := blk_cell HP4.out.blk2 off
      rw [hold] at hc4
      have hf4 := blk_frozen HP4.out.blk2 off
      have HPA := Lib.hid (HP4.out.up2.setBlk off (.int .i64 x))
      rw [← putAt_snoc (os := numAt) (by rw [List.length_map, HL1.out]; exact HOF.out)] at HPA
      clear hold
      go_wp2_with fail
      refine ⟨⟨j + 1, s2, l1 ++ [x], by simp, by omega, Lib.hid ?_, ?_⟩, ?_⟩
      · rw [HSUC.out, ← HX.out]
      · rw [List.map_append]
        exact HPA.out.down2
      · simp [intOf]
        omega
    case neg =>
    have hj' : j = 10 := by omega
    subst hj'
    obtain ⟨x0, x1, x2, x3, x4, x5, x6, x7, x8, x9, rfl⟩ := ten HL1.out
    have hx3 : 0 ≤ x3 ∧ x3 ≤ 9223372036854775807 := by
      obtain ⟨_, h2⟩ := Fit.many (ok := fun x => 0 ≤ x ∧ x ≤ 9223372036854775807) (fun s E h => Fit.num HB.out h) 10 _ _ (Fit.start bs)
      rw [← hM.out] at h2
      exact h2 x3 (by simp)
    rw [nums_put] at HQ
    have HPB := Lib.hid (HQ.out.swap.tail.swap.setBlk 16 (.int .i64 (x3 - 1)))
    have hc16 : wr.cell? ⟨cb, 16, none⟩ = some (.int .i64 x3) := blk_cell HQ.out.blk2 16
    have hf16 := blk_frozen HQ.out.blk2 16
    simp only [List.setIfInBounds_toArray, List.set_cons_zero, List.set_cons_succ] at HPB
    clear HQ
    go_wp2_with fail
    generalize wr.setCell ⟨cb, 16, none⟩ (.int .i64 (x3 - 1)) = W1 at *
    obtain ⟨⟨s2, f⟩, hr2⟩ : ∃ r, r = rsNum bs s1 := ⟨_, rfl⟩
    have HF2 := Lib.hid hr2
    clear hr2
    refine Calls.mono HPB.out.swap.rdNum ?_
    rw [← HF2.out]
    rintro e w5 ⟨rfl, hP⟩
    have HP5 := Lib.hid hP
    clear hP
    obtain ⟨fb, hfb⟩ : ∃ fb, fb = decide (f = 1) := ⟨_, rfl⟩
    have hfb1 : (f == 1) = fb := by rw [hfb]; rfl
    have HFB := Lib.hid hfb
    have HPC := Lib.hid (HP5.out.swap.setBlk 10 (.bool fb))
    simp only [List.setIfInBounds_toArray, List.set_cons_zero, List.set_cons_succ] at HPC
    have hc10 : w5.cell? ⟨cb, 10, none⟩ = some (.bool false) := blk_cell HP5.out.blk1 10
    have hf10 := blk_frozen HP5.out.blk1 10
    clear hfb
    go_wp2_with fail
    generalize w5.setCell ⟨cb, 10, none⟩ (.bool fb) = W2 at *
    refine Calls.mono (texts_blk cb (.int .i64 x0) W2 (blk_cell HPC.out.blk0 0)) ?_
    rintro e w6 ⟨g2, rfl, hg1, hg2, hB6⟩
    obtain ⟨ae, hae⟩ : ∃ ae : Addr, ae = ⟨g2, 0, none⟩ := ⟨_, rfl⟩
    rw [← hae]
    have HAE := Lib.hid hae
    have HP6 := Lib.hid ((HPC.out.fresh (Q := ABlk g2 (.cells (ptrs cb textAt) 59 (0, 0))) hB6 ⟨hg1, hg2⟩).up2)
    obtain ⟨C3, hC3⟩ : ∃ C3 : Array Value, C3 = #[.int .i64 x0, .int .i64 x1, .int .i64 x2, .string ⟨#[]⟩, .int .i64 x5, .int .i64 x6, .int .i64 x7, .int .i64 x8, .int .i64 x9, .string ⟨#[]⟩, .bool fb, .string ⟨#[]⟩, .string ⟨#[]⟩, .string ⟨#[]⟩, .string ⟨#[]⟩, .slice none 0 0, .int .i64 (x3 - 1), .int .i64 x4] := ⟨_, rfl⟩
    have HC3 := Lib.hid hC3
    have HP6 : Hid (Hp w w6 (ARd rb bs s2 :: ABlk g2 (.cells (ptrs cb textAt) 59 (0, 0)) :: ABlk cb (.cells C3 26 (0, 0)) :: ABlk w.heap.size (.cells (Cm.zero.cells (.slice none 0 0) 0) 26 (0, 0)) :: [])) := Lib.hid (by rw [HC3.out]; exact HP6.out)
    have hcs3 : C3.size = 18 := by rw [hC3]; rfl
    have HCS3 := Lib.hid hcs3
    clear hae hg1 hg2 hB6 hC3 hcs3 hc16 hf16 hc10 hf10 hfb1
    go_wp2_with fail
    go_loopw [37] (fun i wr => ∃ (j : Nat) (s3 : Rs) (l3 : List ByteArray), i = .int .i64 j ∧ j ≤ 6 ∧ Hid ((s3, l3) = rsMany (rsText bs 256) j s2) ∧ Hp w wr (ARd rb bs s3 :: ABlk g2 (.cells (ptrs cb textAt) 59 (0, 0)) :: ABlk cb (.cells (putAt textAt (l3.map Value.string) C3) 26 (0, 0)) :: ABlk w.heap.size (.cells (Cm.zero.cells (.slice none 0 0) 0) 26 (0, 0)) :: [])) (fun i _ => 6 - (intOf i).toNat)
    case atStart => exact ⟨0, s2, [], rfl, Nat.zero_le _, Lib.hid rfl, HP6.out⟩
    case round =>
      obtain ⟨j, s3, l3, rfl, hj, hM3, hQ⟩ := hrel
      have HQ := Lib.hid hQ
      have hl3 : l3.length = j := by
        have h := rsMany_len (rsText bs 256) j s2
        rw [← hM3.out] at h
        exact h
      have HL3 := Lib.hid hl3
      clear hQ hl3
      by_cases hj6 : j < 6
      case pos =>
        have i0 : (0 : Int) ≤ (j : Int) := by omega
        have i1 : (j : Int) < 6 := by omega
        have hC : (KPtr cb).C wr (some ae) 6 textAt := by
          rw [HAE.out]
          exact C_block HQ.out.blk1 textAt (by unfold ptrs; rw [List.toList_toArray]) (by decide)
        obtain ⟨ad', off, e, hx, d0⟩ := C_nth_scalar hC j hj6
        obtain rfl : ae = ad' := Option.some.inj e
        have hol := textAt_lt hx
        have HSUC := Lib.hid (rsMany_succ (rsText bs 256) j s2)
        rw [← hM3.out] at HSUC
        obtain ⟨⟨s4, x⟩, hr⟩ : ∃ r, r = rsText bs 256 s3 := ⟨_, rfl⟩
        have HX := Lib.hid hr
        have HOF := Lib.hid hx
        clear hC hx e hr
        go_wp2_with fail
        refine Calls.mono (HQ.out.rdText 256) ?_
        rw [← HX.out]
        rintro e w7 ⟨rfl, hP⟩
        have HP7 := Lib.hid hP
        clear hP
        obtain ⟨old, hold⟩ := putAt_cell (os := textAt) (vs := l3.map Value.string) (cs := C3) off (by rw [HCS3.out]; exact hol)
        have hc4 := blk_cell HP7.out.blk2 off
        rw [hold] at hc4
        have hf4 := blk_frozen HP7.out.blk2 off
        have HPA := Lib.hid (HP7.out.up2.setBlk off (.string x))
        rw [← putAt_snoc (os := textAt) (by rw [List.length_map, HL3.out]; exact HOF.out)] at HPA
        clear hold
        go_wp2_with fail
        refine ⟨⟨j + 1, s4, l3 ++ [x], by simp, by omega, Lib.hid ?_, ?_⟩, ?_⟩
        · rw [HSUC.out, ← HX.out]
        · rw [List.map_append]
          exact HPA.out.down2
        · simp [intOf]
          omega
      case neg =>
      have hj' : j = 6 := by omega
      subst hj'
      obtain ⟨t0, t1, t2, t3, t4, t5, rfl⟩ := six HL3.out
      obtain ⟨cc, hcc⟩ : ∃ cc, cc = Cm.of [x0, x1, x2, x3, x4, x5, x6, x7, x8, x9] f [t0, t1, t2, t3, t4, t5] [] := ⟨_, rfl⟩
      have HCC := Lib.hid hcc
      have hcells : ∀ v n, cc.cells v n = #[.int .i64 x0, .int .i64 x1, .int .i64 x2, .string t0, .int .i64 x5, .int .i64 x6, .int .i64 x7, .int .i64 x8, .int .i64 x9, .string t1, .bool fb, .string t2, .string t3, .string t4, .string t5, v, .int .i64 n, .int .i64 x4] := fun v n => by rw [hcc, HFB.out]; rfl
      have hpa : putAt textAt ([t0, t1, t2, t3, t4, t5].map Value.string) C3 = cc.cells (.slice none 0 0) (x3 - 1) := by rw [hcells, HC3.out, texts_put]
      rw [hpa] at HQ
      have HCE := Lib.hid hcells
      clear hcells hpa hcc
      go_wp2_with fail
      obtain ⟨⟨s4, mm⟩, hr4⟩ : ∃ r, r = rsNum bs s3 := ⟨_, rfl⟩
      have HM4 := Lib.hid hr4
      clear hr4
      refine Calls.mono (HQ.out.swap.tail.rdNum) ?_
      rw [← HM4.out]
      rintro e w8 ⟨rfl, hP⟩
      have HP8 := Lib.hid hP
      clear hP
      obtain ⟨rm, hrm⟩ : ∃ rm : Nat, rm = (min mm 10).toNat := ⟨_, rfl⟩
      have hmm0 : 0 ≤ mm := by
        have h := (rc_fit HB.out).2.2
        have e1 : rc1 bs = (s1, [x0, x1, x2, x3, x4, x5, x6, x7, x8, x9]) := hM.out.symm
        have e2 : rc2 bs = (s2, f) := by unfold rc2; rw [e1]; exact HF2.out.symm
        have e3 : rc3 bs = (s3, [t0, t1, t2, t3, t4, t5]) := by unfold rc3; rw [e2]; exact hM3.out.symm
        have e4 : rc4 bs = (s4, mm) := by unfold rc4; rw [e3]; exact HM4.out.symm
        rw [e4] at h
        exact h
      have hmn : ∀ ts t W, (Builtin.min_ ts t #[.int .i64 mm, .int .i64 10]).run Try.prog W = .ok (.int .i64 rm) W := by
        intro ts t W
        simp [Builtin.min_, Builtin.min2]
        rw [hrm]
        split <;> omega
      have hrm10 : rm ≤ 10 := by omega
      have HRM := Lib.hid hrm
      have HV := Lib.hid (HP8.out.nilRow Kd.string 9)
      clear hrm
      go_wp2_with fail
      clear hmn
      go_loopw [49] (fun i wr => ∃ (j : Nat) (s5 : Rs) (l5 : List ByteArray) (v5 : Value), i = .int .i64 j ∧ j ≤ rm ∧ Hid ((s5, l5) = rsMany (rsText bs 256) j s4) ∧ Hp w wr (ARd rb bs s5 :: ABlk cb (.cells (cc.cells v5 (x3 - 1)) 26 (0, 0)) :: ARow Kd.string 9 v5 l5 :: ABlk w.heap.size (.cells (Cm.zero.cells (.slice none 0 0) 0) 26 (0, 0)) :: [])) (fun i _ => rm - (intOf i).toNat)
      case atStart => exact ⟨0, s4, [], .slice none 0 0, rfl, Nat.zero_le _, Lib.hid rfl, HV.out.down2⟩
      case round =>
        obtain ⟨j, s5, l5, v5, rfl, hj, hM5, hQ⟩ := hrel
        have HQ5 := Lib.hid hQ
        have hl5 : l5.length = j := by
          have h := rsMany_len (rsText bs 256) j s4
          rw [← hM5.out] at h
          exact h
        have HL5 := Lib.hid hl5
        clear hQ hl5
        by_cases hjr : j < rm
        case pos =>
          have i1 : (j : Int) < (rm : Int) := by omega
          have HSUC := Lib.hid (rsMany_succ (rsText bs 256) j s4)
          rw [← hM5.out] at HSUC
          obtain ⟨⟨s6, tx⟩, hr⟩ : ∃ r, r = rsText bs 256 s5 := ⟨_, rfl⟩
          have HT := Lib.hid hr
          clear hr
          go_upto_region 17 with (fail)
          have HPd := Lib.hid (HQ5.out.below (Below.refl _ _).drew)
          refine start_ (n := 8) (S := fun w' => w'.cell? ⟨cb, 15, none⟩ = some v5) (ds := [7]) #[false, false, false, false, false, false, false, false] (by kernel_rfl) rfl rfl (blk_cell HPd.out.swap.blk0 15) (fun hHeld => ?_)
          generalize wr.drew = wd at *
          refine pure_ (i := 0) (N := (some 51)) (v := ?_) (a' := ?_) #[true, false, false, false, false, false, false, false] rfl rfl (by kernel_rfl) (fun _ _ _ h => h) (Or.inl ⟨by rfl, ?_⟩) ?_ ?_
          rotate_left
          · intro w'
            go_simp
            with_reducible rfl
          rotate_left
          · simp only [Act.put, List.setIfInBounds_toArray, List.set_cons_zero, List.set_cons_succ, i64_w, i32_w]
            rfl
          refine pure_ (i := 2) (N := (some 53)) (v := ?_) (a' := ?_) #[true, false, true, false, false, false, false, false] rfl rfl (by kernel_rfl) (fun _ _ _ h => h) (Or.inl ⟨by rfl, ?_⟩) ?_ ?_
          rotate_left
          · intro w'
            go_simp
            with_reducible rfl
          rotate_left
          · simp only [Act.put, List.setIfInBounds_toArray, List.set_cons_zero, List.set_cons_succ, i64_w, i32_w]
            rfl
          refine take_ (i := 1) (N := (some 52)) (v := ?_) (a' := ?_) #[true, true, true, false, false, false, false, false] rfl rfl (by kernel_rfl) (fun _ _ _ h => h) (Or.inl ⟨by rfl, ?_⟩) hHeld ?_ ?_
          rotate_left
          · rintro w' s5
            go_simp
            with_reducible rfl
          rotate_left
          · simp only [Act.put, List.setIfInBounds_toArray, List.set_cons_zero, List.set_cons_succ, i64_w, i32_w]
            rfl
          refine one_ (i := 3) (N := some 54) #[true, true, true, true, false, false, false, false] rfl rfl (by kernel_rfl) (by decide) (fun K hK => ?_)
          refine goes_ Try.func21 (by kernel_rfl) rfl #[.pointer (some ⟨rb, 0, none⟩), .int .i64 256] (by rfl) rfl rfl (by first | rfl | (go_simp; done) | (simp [Act.eval]; done) | (simp [Act.eval]; rfl)) ?_
          refine Calls.mono (HPd.out.rdText 256) ?_
          rw [← HT.out]
          rintro e w4 ⟨rfl, hP⟩
          have HP4 := Lib.hid hP
          clear hP
          refine ⟨_, rfl, ?_⟩
          refine hK.out _ _ (blk_cell HP4.out.swap.blk0 15) (fun hHeld => ?_)
          clear hK K
          refine norm_ (a' := ?_) ?_ ?_
          rotate_left
          · show Act.put _ (some 54) _ = _
            simp only [Act.put, List.setIfInBounds_toArray, List.set_cons_zero, List.set_cons_succ, i64_w, i32_w]
            rfl
          refine one_ (i := 4) (N := (some 55)) #[true, true, true, true, true, false, false, false] rfl rfl (by kernel_rfl) (by decide) (fun K hK => ?_)
          refine Kd.R_lit_step Kd.string (w0 := w4) w4.heap.size 9 ?hg (N := 55) ?hd (xs := [tx]) (inner := [.string tx]) (ok := fun _ => True) (okp := fun _ => True) ?hr ?hp (fun _ hk => hk) trivial (Below.refl _ _) (Nat.le_refl _) (by simp) ?_; (case hd => rfl); (case hg => rfl); (case hr => first | (go_simp; done) | (go_simp; rfl)); (case hp => exact (Reps.none _ _).snoc rfl rfl)
          intro v7 w7 hR7 hB7 _ _
          have HP7 := Lib.hid (HP4.out.row hB7 hR7)
          obtain ⟨A7, c7, hv7⟩ := Kd.R_slice hR7
          subst hv7
          clear hR7 hB7
          refine hK.out _ _ (blk_cell HP7.out.up2.blk0 15) (fun hHeld => ?_)
          clear hK K
          refine norm_ (a' := ?_) ?_ ?_
          rotate_left
          · show Act.put _ (some 55) _ = _
            simp only [Act.put, List.setIfInBounds_toArray, List.set_cons_zero, List.set_cons_succ, i64_w, i32_w]
            rfl
          refine one_ (i := 5) (N := (some 56)) #[true, true, true, true, true, true, false, false] rfl rfl (by kernel_rfl) (by decide) (fun K hK => ?_)
          obtain ⟨okr, hR1, hR2, hR3⟩ := HP7.out.up3.appended
          have hCx := Kd.R_reads' HP7.out.head
          refine Kd.R_append_rows_step Kd.string (w0 := w7) 0 (by rfl) (.tmp 52) (.tmp 55) 24 9 (.string ⟨#[]⟩) 16 rfl Try.underlying24 info_str rfl (by decide) (by omega) v5 l5 [tx] A7 1 c7 okr (fun _ => False) rfl rfl hR1 hCx.2.2 (fun _ _ h => h) (fun _ h => h.elim) hR2 (Below.refl _ _) (Nat.zero_le _) (by have := HL5.out; have : [tx].length = 1 := rfl; omega) ?_
          intro v9 w9 hR9 _ hg9 _
          obtain ⟨A9, d9, hv9⟩ := Kd.R_slice hR9
          generalize (l5 ++ [tx]).length = n9 at hv9
          subst hv9
          have HP9 := Lib.hid (hR3 (.slice A9 n9 d9) w9 _ hR9 ⟨hg9.os, hg9.tape, hg9.output, hg9.size, hg9.block⟩).drop1
          clear hR9 hg9 hR1 hR2 hR3 hCx okr
          refine hK.out _ _ (blk_cell HP9.out.up2.blk0 15) (fun hHeld => ?_)
          clear hK K
          refine norm_ (a' := ?_) ?_ ?_
          rotate_left
          · show Act.put _ (some 56) _ = _
            simp only [Act.put, List.setIfInBounds_toArray, List.set_cons_zero, List.set_cons_succ, i64_w, i32_w]
            rfl
          have HPA := Lib.hid (HP9.out.up2.setBlk 15 (.slice A9 n9 d9))
          have hf9 := blk_frozen HP9.out.up2.blk0 15
          have hp9 := blk_cell HP9.out.up2.blk0 15
          clear hHeld
          refine pure_ (i := 6) (N := (some 57)) (v := ?_) (a' := ?_) #[true, true, true, true, true, true, true, false] rfl rfl (by kernel_rfl) (fun _ _ _ h => h) (Or.inl ⟨by rfl, ?_⟩) ?_ ?_
          rotate_left
          · intro w'
            go_simp
            with_reducible rfl
          rotate_left
          · simp only [Act.put, List.setIfInBounds_toArray, List.set_cons_zero, List.set_cons_succ, i64_w, i32_w]
            rfl
          refine last_ (i := 7) (N := none) #[true, true, true, true, true, true, true, true] rfl rfl (by kernel_rfl) (by decide) (fun K hK => ?_)
          refine skip_ (w1 := ?_) (by rfl) rfl ?_ ?_
          rotate_left
          · go_simp
            rfl
          refine hK.out _ _ ?_
          clear hK K
          refine done_ (by kernel_rfl) ?_
          have hset : (cc.cells v5 (x3 - 1)).setIfInBounds 15 (.slice A9 n9 d9) = cc.cells (.slice A9 n9 d9) (x3 - 1) := by rw [HCE.out, HCE.out]; simp only [List.setIfInBounds_toArray, List.set_cons_zero, List.set_cons_succ]
          rw [hset] at HPA
          clear hset
          go_wp2_with fail
          refine ⟨⟨j + 1, s6, l5 ++ [tx], .slice A9 n9 d9, by simp, by omega, Lib.hid ?_, HPA.out.up2⟩, ?_⟩
          · rw [HSUC.out, ← HT.out]
          · simp [intOf]
            omega
        case neg =>
        have hj' : j = rm := by omega
        subst hj'
        have he5 : rc5 bs = (s5, l5) ∧ rcCmd bs = Cm.of [x0, x1, x2, x3, x4, x5, x6, x7, x8, x9] f [t0, t1, t2, t3, t4, t5] l5 := by
          have e1 : rc1 bs = (s1, [x0, x1, x2, x3, x4, x5, x6, x7, x8, x9]) := hM.out.symm
          have e2 : rc2 bs = (s2, f) := by unfold rc2; rw [e1]; exact HF2.out.symm
          have e3 : rc3 bs = (s3, [t0, t1, t2, t3, t4, t5]) := by unfold rc3; rw [e2]; exact hM3.out.symm
          have e4 : rc4 bs = (s4, mm) := by unfold rc4; rw [e3]; exact HM4.out.symm
          have e5 : rc5 bs = (s5, l5) := by unfold rc5; rw [e4]; dsimp only; rw [← HRM.out]; exact hM5.out.symm
          exact ⟨e5, by unfold rcCmd; rw [e1, e2, e3, e5]⟩
        obtain ⟨e5, e6⟩ := he5
        rw [e5] at HBAD HNO HYES
        rw [e6] at HNO HYES
        obtain ⟨c9, hc9⟩ : ∃ c9, c9 = Cm.of [x0, x1, x2, x3, x4, x5, x6, x7, x8, x9] f [t0, t1, t2, t3, t4, t5] l5 := ⟨_, rfl⟩
        have hcc9 : ∀ v, cc.cells v (x3 - 1) = c9.cells v c9.n := fun v => by rw [HCC.out, hc9]; rfl
        have hb9 : c9.bodies = l5 := by rw [hc9]; rfl
        rw [← hc9] at HNO HYES
        obtain ⟨B, d, rfl⟩ := Kd.R_slice HQ5.out.up2.head
        rw [hcc9, ← hb9] at HQ5
        have hnb : c9.bodies.length ≤ 10 := by rw [hb9, HL5.out]; exact hrm10
        clear hcc9 hb9 hc9 HCE e5 e6
        dsimp only at HBAD HNO HYES
        obtain ⟨no, hno⟩ : ∃ no, no = rsDone bs s5 := ⟨_, rfl⟩
        have HD := Lib.hid HQ5.out.rdDone
        rw [← hno] at HBAD HNO HYES HD
        clear hno
        go_wp2_with fail
        refine Calls.mono HD.out ?_
        rintro e w9 ⟨ev, rfl, hFV, hP⟩
        have HP9 := Lib.hid hP
        have HFV := Lib.hid hFV
        clear hP
        rcases hFV with ⟨h0, rfl⟩ | ⟨h0, fb2, at2, rfl, hfb2⟩
        case inr =>
          have HE := Lib.hid (HBAD.out h0)
          have HFB2 := Lib.hid hfb2
          have H0 := Lib.hid h0
          clear hfb2 h0
          go_wp2_with ((with_reducible refine gate_store (t := 26) (p := 2) (v := .tmp 63) rfl ?_); refine wpList_store_row rfl 26 (.tmp 2) (.tmp 63) rfl w.heap.size (Cm.zero.cells (.slice none 0 0) 0) rfl rfl 26 (Cm.zero.cells (.slice none 0 0) 0) HP9.out.blk3 info_cmd rfl zero_one ?_)
          have HPZ := Lib.hid (HP9.out.up3.setRowBlk (Cm.zero.cells (.slice none 0 0) 0))
          refine bodyPost_ret (results_cell_slot rfl _ _ w.heap.size 26 (Cm.zero.cells (.slice none 0 0) 0) (0, 0) _ rfl HPZ.out.blk0 Try.underlying26 rfl info_cmd _ rfl) rfl ?_
          have hne : fb2 ≠ w.heap.size := by
            intro e
            have h1 := HFB2.out
            rw [e, HP9.out.blk3] at h1
            have h2 := congrArg (fun o => match o with | some (Obj.cells cs _ _) => cs.size | _ => 0) h1
            exact absurd (show (18 : Nat) = 2 from h2) (by decide)
          rw [HE.out]
          exact ⟨none, 0, 0, _, rfl, Kd.C_nil _ _, Nat.le_refl _, .inr ⟨H0.out, fb2, at2, rfl, (setRow_other _ _ _ _ (by first | exact hne | exact Ne.symm hne)).trans HFB2.out⟩, HPZ.out.belowW⟩
        case inl =>
        have H0 := Lib.hid h0
        obtain ⟨nb, hnb2⟩ : ∃ nb, nb = c9.bodies.length := ⟨_, rfl⟩
        rw [← hnb2] at HP9 hnb
        have hrd := Kd.R_reads' HP9.out.up2.head
        have HRB := Lib.hid (show Kd.string.C w9 B nb c9.bodies from by rw [hrd.1]; exact hrd.2.2)
        obtain ⟨cs9, hcs9⟩ : ∃ cs9, cs9 = c9.cells (.slice B nb d) c9.n := ⟨_, rfl⟩
        have HW := Lib.hid (write_any c9 B nb d w9 HRB.out)
        rw [show c9.val (.slice B nb d) = .agg cs9 by rw [hcs9]; rfl] at HW
        have HCS := Lib.hid hcs9
        have hinf : (Try.prog.info? 26).map (·.size) = some cs9.size := by rw [hcs9]; exact info_cmd
        have hone : cs9.all (·.oneCell') = true := by rw [hcs9]; simp [Cm.cells, Value.oneCell']
        have hold : ((Cm.zero.cells (.slice none 0 0) 0)).size = cs9.size := by rw [hcs9]; rfl
        have HINF := Lib.hid hinf
        have HONE := Lib.hid hone
        have HOLD := Lib.hid hold
        rw [← hcs9] at HP9
        obtain ⟨rt, hrt⟩ : ∃ rt, rt = cmRight c9 := ⟨_, rfl⟩
        rw [← hrt] at HW HNO HYES
        have HRT := Lib.hid hrt
        clear h0 hnb2 hrd hcs9 hrt hinf hone hold
        go_wp2_with ((with_reducible refine gate_dst (N := 66) rfl ?_); refine wpList_load_row rfl 26 (.tmp 4) rfl cb rfl 26 cs9 (0, 0) _ HP9.out.blk1 Try.underlying26 rfl HINF.out ?_)
        refine Calls.mono HW.out ?_
        cases rt
        case false =>
          rintro e w10 ⟨_, hw2, hB10⟩
          obtain ⟨fb4, rfl, _, _⟩ := hw2 rfl
          have HPW := Lib.hid (HP9.out.below hB10).down2
          have HE := Lib.hid (HNO.out H0.out (fun h => absurd h.1 (by decide)))
          clear hw2 hB10
          go_wp2_with fail
          refine Calls.mono HPW.out.up2.rdAt ?_
          rintro e w12 ⟨rfl, hP⟩
          have HP12 := Lib.hid hP
          clear hP
          go_wp2_with fail
          refine Calls.mono (refused_any 2 _ w12) ?_
          rintro e w13 ⟨fb3, rfl, hf1, hf2, hB13⟩
          have HP13 := Lib.hid (HP12.out.below hB13)
          have HF2 := Lib.hid hf2
          have hfne : fb3 ≠ w.heap.size := by
            have h3 := (Array.getElem?_eq_some_iff.1 HP12.out.blk3).1
            omega
          have HFNE := Lib.hid hfne
          clear hf1 hf2 hB13 hfne
          go_wp2_with ((with_reducible refine gate_store (t := 26) (p := 2) (v := .tmp 78) rfl ?_); refine wpList_store_row rfl 26 (.tmp 2) (.tmp 78) rfl w.heap.size (Cm.zero.cells (.slice none 0 0) 0) rfl rfl 26 (Cm.zero.cells (.slice none 0 0) 0) HP13.out.blk3 info_cmd rfl zero_one ?_)
          have HPZ := Lib.hid (HP13.out.up3.setRowBlk (Cm.zero.cells (.slice none 0 0) 0))
          refine bodyPost_ret (results_cell_slot rfl _ _ w.heap.size 26 (Cm.zero.cells (.slice none 0 0) 0) (0, 0) _ rfl HPZ.out.blk0 Try.underlying26 rfl info_cmd _ rfl) rfl ?_
          rw [HE.out]
          exact ⟨none, 0, 0, _, rfl, Kd.C_nil _ _, Nat.le_refl _, .inr ⟨by decide, fb3, _, rfl, (setRow_other _ _ _ _ (by first | exact HFNE.out | exact Ne.symm HFNE.out)).trans HF2.out⟩, HPZ.out.belowW⟩
        case true =>
        rintro e w10 ⟨hw1, _, hB10⟩
        obtain ⟨A', n', c', rfl, hRd⟩ := hw1 rfl
        have HRD := Lib.hid hRd
        have HPX := Lib.hid (HP9.out.below hB10)
        obtain ⟨q, hq⟩ : ∃ q, q = decide (encCmd c9 = bs) := ⟨_, rfl⟩
        have HQB := Lib.hid hq
        have HEQ := Lib.hid (eqBytes_any (encCmd_ok c9) HB.out HRD.out (HA.out.below HPX.out.belowW))
        rw [← hq] at HEQ
        clear hw1 hRd hB10 hq
        cases q
        case false =>
          have HE := Lib.hid (HNO.out H0.out (fun h => absurd h.2 (of_decide_eq_false HQB.out.symm)))
          have HPW := Lib.hid HPX.out.down2
          go_wp2_with (go_at_call 7; refine Calls.mono HEQ.out ?_; rintro e w11 ⟨rfl, rfl⟩)
          refine Calls.mono HPW.out.up2.rdAt ?_
          rintro e w12 ⟨rfl, hP⟩
          have HP12 := Lib.hid hP
          clear hP
          go_wp2_with fail
          refine Calls.mono (refused_any 2 _ w12) ?_
          rintro e w13 ⟨fb3, rfl, hf1, hf2, hB13⟩
          have HP13 := Lib.hid (HP12.out.below hB13)
          have HF2 := Lib.hid hf2
          have hfne : fb3 ≠ w.heap.size := by
            have h3 := (Array.getElem?_eq_some_iff.1 HP12.out.blk3).1
            omega
          have HFNE := Lib.hid hfne
          clear hf1 hf2 hB13 hfne
          go_wp2_with ((with_reducible refine gate_store (t := 26) (p := 2) (v := .tmp 78) rfl ?_); refine wpList_store_row rfl 26 (.tmp 2) (.tmp 78) rfl w.heap.size (Cm.zero.cells (.slice none 0 0) 0) rfl rfl 26 (Cm.zero.cells (.slice none 0 0) 0) HP13.out.blk3 info_cmd rfl zero_one ?_)
          have HPZ := Lib.hid (HP13.out.up3.setRowBlk (Cm.zero.cells (.slice none 0 0) 0))
          refine bodyPost_ret (results_cell_slot rfl _ _ w.heap.size 26 (Cm.zero.cells (.slice none 0 0) 0) (0, 0) _ rfl HPZ.out.blk0 Try.underlying26 rfl info_cmd _ rfl) rfl ?_
          rw [HE.out]
          exact ⟨none, 0, 0, _, rfl, Kd.C_nil _ _, Nat.le_refl _, .inr ⟨by decide, fb3, _, rfl, (setRow_other _ _ _ _ (by first | exact HFNE.out | exact Ne.symm HFNE.out)).trans HF2.out⟩, HPZ.out.belowW⟩
        case true =>
          have HE := Lib.hid (HYES.out H0.out rfl (of_decide_eq_true HQB.out.symm))
          have HPZ0 := Lib.hid (HPX.out.up3.setRowBlk cs9)
          have HB1 := Lib.hid HPX.out.blk1
          have HB3 := Lib.hid HPX.out.blk3
          go_wp2_with (first | (go_at_call 7; refine Calls.mono HEQ.out ?_; rintro e w11 ⟨rfl, rfl⟩) | ((with_reducible refine gate_dst (N := 82) rfl ?_); refine wpList_load_row rfl 26 (.tmp 4) rfl cb rfl 26 cs9 (0, 0) _ HB1.out Try.underlying26 rfl HINF.out ?_) | ((with_reducible refine gate_store (t := 26) (p := 2) (v := .tmp 82) rfl ?_); refine wpList_store_row rfl 26 (.tmp 2) (.tmp 82) rfl w.heap.size cs9 rfl rfl 26 (Cm.zero.cells (.slice none 0 0) 0) HB3.out HINF.out HOLD.out HONE.out ?_))
          refine bodyPost_ret (results_cell_slot rfl _ _ w.heap.size 26 cs9 (0, 0) _ rfl HPZ0.out.blk0 Try.underlying26 rfl HINF.out _ rfl) rfl ?_
          have hrd := Kd.R_reads' HPZ0.out.up3.head
          rw [HE.out]
          exact ⟨B, nb, d, .nilIface, by rw [HCS.out]; rfl, by rw [hrd.1]; exact hrd.2.2, hrd.2.1, .inl ⟨rfl, rfl⟩, HPZ0.out.belowW⟩
end Go.Proofs.Ytidjapjidihbpaa
