/- ledger.Ledger.Sweep. -/
import Derived.Test.YtehkhopkedbngaaLdSortI
import Derived.Deep.LoopGhost
import Derived.Deep.DeepCutAuto
namespace Go.Proofs.Ytehkhopkedbngaa
open Go.RowKit Go.Maps Go.Proofs.YtehkhopkedbngaaW.PrintWords

theorem info_strI : (Try.prog.info? 9).map (fun i => (i.zero, i.size, i.bytes)) = some (some (.string ⟨#[]⟩), 1, 16) := by kernel_rfl
/-- The keys of what is past among some entries. -/
def pastOf (l : List (Ent Int)) (now : Int) : List ByteArray := (l.filter (fun p => decide (p.2.2 ≤ now))).map (·.1)
theorem pastOf_snoc (l : List (Ent Int)) (p : Ent Int) (now : Int) : pastOf (l ++ [p]) now = if p.2.2 ≤ now then pastOf l now ++ [p.1] else pastOf l now := by
  unfold pastOf
  rw [List.filter_append, List.map_append]
  by_cases h : p.2.2 ≤ now <;> simp [h]
theorem pastOf_len (l : List (Ent Int)) (now : Int) : (pastOf l now).length ≤ l.length := by unfold pastOf; rw [List.length_map]; exact List.length_filter_le _ _

set_option maxHeartbeats 3200000 in
set_option maxRecDepth 100000 in
theorem ldISweep_any (w : World) (ok : Nat → Prop) (lb : Nat) (room : Int) (r : List (Ent Int)) (now : Int) (h : LdIAt w ok lb room r) (hl : r.length ≤ 1000000) :
    Calls Try.prog 21 #[.pointer (some ⟨lb, 0, none⟩), .int .i64 now] w fun e w' => ∃ A c, e = .returned (.slice A (past r now).length c) ∧ Kd.string.R 9 w' w.heap.size (fun _ => True) (.slice A (past r now).length c) ((past r now).map (·.1)) ∧ LdIAt w' ok lb room (left r now) ∧ Keep ok w w' := by
  obtain ⟨mb, hV⟩ := h
  have hV' : LdIV w (fun k => ok k ∧ k < w.heap.size) lb mb room r := ⟨hV.hd, hV.map, ⟨hV.oklb, blk_lt hV.hd⟩, ⟨hV.okmb, hV.map.lt⟩, hV.row⟩
  have HOK := Lib.hid (show ok lb ∧ ok mb from ⟨hV.oklb, hV.okmb⟩)
  clear hV
  obtain ⟨ok', hok'⟩ : ∃ ok' : Nat → Prop, ok' = fun k => ok k ∧ k < w.heap.size := ⟨_, rfl⟩
  rw [← hok'] at hV'
  have HOK' := Lib.hid hok'
  clear hok'
  have hB1 : Below w.heap.size w (w.alloc (.cells #[.pointer (some ⟨lb, 0, none⟩)] 24)) := below_alloc (Below.refl _ _) _
  have hV1 := hV'.move (fun k _ hk => hB1.block k hk)
  have hbx := heap_alloc_new w (.cells #[.pointer (some ⟨lb, 0, none⟩)] 24)
  have hz1 : (w.alloc (.cells #[.pointer (some ⟨lb, 0, none⟩)] 24)).heap.size = w.heap.size + 1 := by simp
  have hlbw := blk_lt hV'.hd
  have hmbw := hV'.map.lt
  have HV := Lib.hid hV'
  clear hV'
  obtain ⟨t0, t1, hlt⟩ := hV1.cells
  have HM1 := Lib.hid hV1.map
  have HV1 := Lib.hid hV1
  have HB1 := Lib.hid hB1
  have HBX := Lib.hid hbx
  have HZ1 := Lib.hid hz1
  clear hV1 hB1 hbx hz1
  go_enter Try.func21, Try.ntmps21
  go_wp2_with (refine wpList_range_at (K := KLI) (enc := encLI) HM1.out (by rfl) (.tmp 13) 58 62 rfl under_ldI rfl ?_; intro w2 hR2 hB2 hz2)
  rw [HZ1.out] at hR2 ⊢
  have HR2 := Lib.hid hR2
  have HB2 := Lib.hid hB2
  have HBX2 := Lib.hid ((hB2.block w.heap.size (blk_lt HBX.out)).trans HBX.out)
  have HL2 := Lib.hid (HB1.out.trans (hB2.mono HB1.out.size))
  have hz2' : w2.heap.size = w.heap.size + 2 := by rw [hz2, HZ1.out]
  have HZ2 := Lib.hid hz2'
  clear hR2 hB2 hz2 hz2' t0 t1
  go_frame
  go_loopg [5] r.length (fun gn u5 wr => ∃ done todo, todo.length = gn ∧ (done ++ todo).Perm r ∧ RangeAt KLI encLI wr mb (w.heap.size + 1) r todo ∧ Kd.string.R 9 wr w.heap.size (fun k => k ≠ w.heap.size ∧ k ≠ w.heap.size + 1) u5 (pastOf done now) ∧ Below w.heap.size w wr ∧ wr.heap[w.heap.size]? = some (.cells #[.pointer (some ⟨lb, 0, none⟩)] 24 (0, 0)))
  case atStart => exact ⟨[], r, rfl, List.Perm.refl _, HR2.out, Kd.R_nil _ _ _ _ _, HL2.out, HBX2.out⟩
  case round =>
    obtain ⟨done, todo, hgn, hperm, hra, hR, hB, hbx⟩ := hrel
    have HP := Lib.hid hperm
    have HRA := Lib.hid hra
    have HR := Lib.hid hR
    have HB := Lib.hid hB
    have HBXr := Lib.hid hbx
    have hdl : done.length + todo.length = r.length := by rw [← List.length_append]; exact hperm.length_eq
    have hpol := pastOf_len done now
    clear hra hperm hR hB hbx
    go_wp2_with (refine wpList_next_at (K := KLI) (enc := encLI) HRA.out (by rfl) (.tmp 14) rfl rfl ?_ ?_)
    · intro htodo
      have HTD := Lib.hid htodo
      clear htodo
      have hVr := HV.out.move (fun k _ hk => HB.out.block k hk)
      have hpp : (pastOf done now).Perm ((r.filter (fun p => decide (p.2.2 ≤ now))).map (·.1)) := by
        have := HP.out
        rw [HTD.out, List.append_nil] at this
        exact (this.filter _).map _
      have hpl : (pastOf done now).length = (past r now).length := by rw [hpp.length_eq, List.length_map, (past_perm r now).length_eq]
      obtain ⟨A, c, rfl⟩ := Kd.R_slice HR.out
      have hR := HR.out
      rw [hpl] at hR ⊢
      have hpn : (past r now).length ≤ 1000000 := by omega
      have hsort := sortE_any wr ok' (fun k => w.heap.size ≤ k ∧ k ≠ w.heap.size ∧ k ≠ w.heap.size + 1) lb mb w.heap.size room r now hVr HBXr.out w.heap.size A (past r now).length c _ (Kd.R_mono (Kd.R_bound hR) (fun k hk => ⟨hk.2.1, hk.1.1, hk.1.2⟩)) (fun k hk => ⟨fun ho => by rw [HOK'.out] at ho; have := ho.2; omega, hk.2.1⟩) hpp hpn
      have HS := Lib.hid hsort
      have HVr := Lib.hid hVr
      clear hsort hVr hR hpp hpl
      go_wp2_with fail
      refine Calls.mono HS.out ?_
      rintro e w3 ⟨rfl, hR3, hK3⟩
      have HR3 := Lib.hid hR3
      have hb3 := (hK3.block w.heap.size (blk_lt HBXr.out) (fun h => h.2.1 rfl)).trans HBXr.out
      have hV3 := HVr.out.move (w' := w3) (fun k hk hl => hK3.block k hl (fun h => by rw [HOK'.out] at hk; have := hk.2; omega))
      have HB3 := Lib.hid (hK3.below HB.out HB.out.size (fun k _ hk => hk.1))
      have HBX3 := Lib.hid hb3
      have HV3 := Lib.hid hV3
      clear hR3 hK3 hb3 hV3
      obtain ⟨ks, hks⟩ : ∃ ks, ks = (past r now).map (·.1) := ⟨_, rfl⟩
      have hksl : ks.length = (past r now).length := by rw [hks, List.length_map]
      rw [← hks] at HR3
      have HKS := Lib.hid hks
      rw [← hksl] at HR3 hpn ⊢
      have HKL := Lib.hid hksl
      have HKO := Lib.hid (show ∀ k ∈ ks, k.size ≤ maxLen from fun k hk => by
        rw [hks] at hk
        obtain ⟨p, hp, rfl⟩ := List.mem_map.1 hk
        exact HV.out.map.oks p (past_mem.1 hp).1)
      clear hks hksl
      go_wp2_with fail
      go_loopw [33] (fun i wq => ∃ j : Nat, i = .int .i64 j ∧ j ≤ ks.length ∧ LdIV wq ok' lb mb room (dropKeys r (ks.take j)) ∧ Kd.string.R 9 wq w.heap.size (fun k => w.heap.size ≤ k ∧ k ≠ w.heap.size ∧ k ≠ w.heap.size + 1) (.slice A ks.length c) ks ∧ wq.heap[w.heap.size]? = some (.cells #[.pointer (some ⟨lb, 0, none⟩)] 24 (0, 0)) ∧ Keep ok' w wq) (fun i _ => ks.length - (intOf i).toNat)
      case atStart => exact ⟨0, rfl, Nat.zero_le _, by rw [List.take_zero, dropKeys_nil]; exact HV3.out, HR3.out, HBX3.out, Keep.of_below HB3.out ok'⟩
      case round =>
        obtain ⟨j, rfl, hj, hVq, hRq, hbq, hKq⟩ := hrel
        have HVq := Lib.hid hVq
        have HRq := Lib.hid hRq
        have HBq := Lib.hid hbq
        have HKq := Lib.hid hKq
        clear hVq hRq hbq hKq
        by_cases hlt2 : j < ks.length
        · obtain ⟨adk, x, rfl, hx, d0⟩ := C_nth_scalar (Kd.R_reads' HRq.out).2.2 j hlt2
          have hxk := HKO.out x (List.mem_of_getElem? hx)
          have i0 : (0 : Int) ≤ (j : Int) := by omega
          have i1 : (j : Int) < (ks.length : Int) := by omega
          have HTK := Lib.hid (show dropKeys r (ks.take (j + 1)) = mdel (dropKeys r (ks.take j)) x by rw [List.take_add_one, hx]; exact dropKeys_snoc _ _ _)
          have b0 := blk_cell HBq.out 0
          obtain ⟨q0, q1, _⟩ := HVq.out.cells
          simp only [List.getElem?_toArray, List.getElem?_cons_zero] at b0
          clear hx
          go_wp2_with (refine wpList_del_at (K := KLI) (enc := encLI) HVq.out.map (by rfl) (.tmp 40) (.tmp 41) 58 62 rfl under_ldI rfl x rfl hxk ?_; intro w6 hM6 hB6)
          have HM6 := Lib.hid hM6
          have HB6 := Lib.hid hB6
          clear hM6 hB6 b0 q0 q1
          go_wp2_with fail
          go_roundw
          case measure =>
            simp [intOf]
            omega
          case rel =>
            have hnm : mb ≠ w.heap.size := by omega
            refine ⟨j + 1, by simp, by omega, ?_, Kd.R_step HRq.out (fun k hk _ => HB6.out.2.2.2.2 k (by have := hk.1; omega)), HB6.out.blk HBq.out (Ne.symm hnm), HKq.out.trans (HB6.out.keep (S := fun k => ok' k ∨ w.heap.size ≤ k) (.inl HVq.out.okmb))⟩
            rw [HTK.out]
            exact ⟨HB6.out.blk HVq.out.hd (Ne.symm (HVq.out.map.ne_cells HVq.out.hd)), HM6.out, HVq.out.oklb, HVq.out.okmb, HVq.out.row.filter _⟩
        · have hjn : j = ks.length := by omega
          subst hjn
          go_wp2_with fail
          go_ret
          have hV := HVq.out
          rw [List.take_length, HKS.out, left_eq HV.out.row] at hV
          refine ⟨A, c, by rw [← HKL.out]; rfl, ?_, ⟨mb, hV.hd, hV.map, HOK.out.1, HOK.out.2, hV.row⟩, HKq.out.mono (fun k _ hk => by rw [HOK'.out] at hk; exact hk.1)⟩
          rw [← HKL.out, ← HKS.out]
          exact Kd.R_mono HRq.out (fun _ _ => trivial)
    · intro g v1 v2 todo' w4 hp hmem hgok hra4 hB4 hent
      have hlow4 : Below w.heap.size w w4 := hB4.below HB.out (by omega)
      have hR4 : Kd.string.R 9 w4 w.heap.size (fun k => k ≠ w.heap.size ∧ k ≠ w.heap.size + 1) u5 (pastOf done now) := Kd.R_step HR.out (fun k hk _ => hB4.2.2.2.2 k hk.2)
      have hbx4 := hB4.blk HBXr.out (show w.heap.size ≠ w.heap.size + 1 by omega)
      replace hent : (Instr.entry (.pointer (some ⟨w.heap.size + 1, 0, none⟩))).run Try.prog w4 = .ok (.tuple #[.string g, .agg #[.int .i64 v1, .int .i64 v2]]) w4 := hent
      replace hgok : g.size ≤ maxLen := hgok
      have hz4 := hlow4.size
      have hr4 := hra4.lt
      obtain ⟨W5, hW5⟩ : ∃ W5, W5 = w4.alloc (.cells #[.int .i64 v1, .int .i64 v2] 62) := ⟨_, rfl⟩
      have hB5 : Below w4.heap.size w4 W5 := by rw [hW5]; exact below_alloc (Below.refl _ _) _
      have HPT := Lib.hid hp
      have HL5 := Lib.hid (hlow4.trans (hB5.mono hlow4.size))
      have HRA5 := Lib.hid (hra4.move (hB5.block mb hr4.1) (hB5.block _ hr4.2.1))
      have HR5 := Lib.hid (Kd.R_below hR4 hB5)
      have HBX5 := Lib.hid ((hB5.block w.heap.size (blk_lt hbx4)).trans hbx4)
      have hz5 := HL5.out.size
      have HW5 := Lib.hid hW5
      have hz45 := hB5.size
      have hr41 := hr4.2.1
      have HSN := Lib.hid (pastOf_snoc done (g, (v1, v2)) now)
      have hpl : (pastOf done now).length ≤ 1000000 := by omega
      clear hp hlow4 hra4 hB4 hmem hR4 hbx4 hr4 hB5 hW5
      by_cases hpast : v2 ≤ now
      · have HSN' := Lib.hid (show pastOf (done ++ [(g, (v1, v2))]) now = pastOf done now ++ [g] by rw [HSN.out, if_pos hpast])
        have HSZ := Lib.hid (show w4.heap.size + 1 = W5.heap.size by rw [HW5.out]; simp)
        go_wp2_with (at_builtin; refine Kd.R_append Kd.string (w0 := w) (W := w4.alloc (.cells #[.int .i64 v1, .int .i64 v2] 62)) w.heap.size rfl (.tmp 24) (.tmp 26) 43 9 (.string ⟨#[]⟩) 16 rfl Try.underlying43 info_strI rfl (by decide) (by omega) u5 (pastOf done now) g [.string g] (fun k => k ≠ w.heap.size ∧ k ≠ w.heap.size + 1) (fun _ => False) rfl (by rw [← HW5.out]; exact (congrArg (fun z => Value.slice (some ⟨z, 0, none⟩) 1 1) HSZ.out)) rfl (fun _ hk => hk.elim) (by rw [← HW5.out]; exact fun k hk => by omega) (by rw [← HW5.out]; exact HR5.out) (by rw [← HW5.out]; exact HL5.out) (by rw [← HW5.out]; exact hz5) (by omega) ?_; intro v5 w5 hR6 hB6 hg6 _)
        rw [← HW5.out] at hg6
        have HR6 := Lib.hid hR6
        have HB6 := Lib.hid hB6
        have HG6 := Lib.hid hg6
        clear hR6 hB6 hg6
        go_wp2_with fail
        go_roundg todo'.length
        case measure =>
          have := HPT.out.length_eq
          rw [List.length_cons] at this
          omega
        case rel =>
          have hne : ∀ k, (k = mb ∨ k = w.heap.size ∨ k = w.heap.size + 1) → some k ≠ u5.ownBlock := fun k hk e => by
            have h1 := HR5.out.1 k e.symm
            have h2 := Kd.R_base HR5.out k e.symm
            rcases hk with rfl | rfl | rfl
            · omega
            · exact h1.1 rfl
            · exact h1.2 rfl
          refine ⟨done ++ [(g, (v1, v2))], todo', rfl, ?_, HRA5.out.move (HG6.out.block mb HRA5.out.lt.1 (hne _ (.inl rfl))) (HG6.out.block _ HRA5.out.lt.2.1 (hne _ (.inr (.inr rfl)))), ?_, HB6.out, (HG6.out.block _ (blk_lt HBX5.out) (hne _ (.inr (.inl rfl)))).trans HBX5.out⟩
          · refine List.Perm.trans ?_ HP.out
            rw [List.append_assoc]
            exact List.Perm.append_left _ HPT.out.symm
          · rw [HSN'.out]
            exact HR6.out
      · have HSN' := Lib.hid (show pastOf (done ++ [(g, (v1, v2))]) now = pastOf done now by rw [HSN.out, if_neg hpast])
        have hlq : decide (v2 ≤ now) = false := by simpa using hpast
        go_wp2_with fail
        rw [← HW5.out]
        go_roundg todo'.length
        case measure =>
          have := HPT.out.length_eq
          rw [List.length_cons] at this
          omega
        case rel =>
          refine ⟨done ++ [(g, (v1, v2))], todo', rfl, ?_, HRA5.out, ?_, HL5.out, HBX5.out⟩
          · refine List.Perm.trans ?_ HP.out
            rw [List.append_assoc]
            exact List.Perm.append_left _ HPT.out.symm
          · rw [HSN'.out]
            exact HR5.out
end Go.Proofs.Ytehkhopkedbngaa
