/- Put together: The document's queue: Send, where it may be sent. · The document's queue: Tick. -/
import Derived.Test.YtoclcmnphdgfpaaGreatDoorG9
import Derived.Test.YtoclcmnphdgfpaaGreatDoorWLast
import Derived.Test.YtoclcmnphdgfpaaGreatDoorG8
import Derived.IntWalk
set_option linter.unusedVariables false
set_option linter.unusedSimpArgs false
set_option linter.unusedVariables false
set_option linter.unusedSimpArgs false
namespace Go.Proofs.YtoclcmnphdgfpaaGreatDoor
open Go.RowKit Go.Maps Go.Proofs.YtoclcmnphdgfpaaGreatDoorW.PrintWords Go.Proofs.YtoclcmnphdgfpaaGreatDoorW.PrintLast
section
variable {w0 w : World} {ρ : Qs} {Ps : List Asn}
theorem may_yes {a : QA} {body group key : ByteArray} {delay : Int} (h : qMaySend a body group key delay = true) :
    (¬ 256 < (body.size : Int) ∧ ¬ 256 < (group.size : Int) ∧ ¬ 256 < (key.size : Int)) ∧ ((a.fifo = true ∧ group.size ≠ 0 ∧ delay = -1) ∨ (a.fifo = false ∧ group.size = 0 ∧ ¬ delay < -1 ∧ ¬ 1048576 < delay)) := by
  unfold qMaySend at h
  rw [Bool.and_eq_true, decide_eq_true_iff] at h
  refine ⟨by omega, ?_⟩
  have h2 := h.2
  cases hf : a.fifo
  · rw [hf] at h2
    simp at h2
    exact .inr ⟨rfl, h2.1 ▸ by simp, by omega, by omega⟩
  · rw [hf] at h2
    simp at h2
    exact .inl ⟨rfl, by omega, h2.2⟩
set_option maxHeartbeats 6400000 in
set_option maxRecDepth 100000 in
theorem Hp.refSendMay {A A2 : Option Addr} {n c n2 c2' T : Nat} (h : Hp w0 w (ADm (.slice A n c) ρ.l :: AKy (.slice A2 n2 c2') ρ.k :: Ps)) (hi : QInv ρ T) (hT6 : T ≤ 1000000) (body group key : ByteArray) (delay : Int) (hm : qMaySend ρ.a body group key delay = true) :
    Calls Tryz.prog 52 #[ρ.val (.slice A n c) (.slice A2 n2 c2'), .string body, .string group, .string key, .int .i64 delay] w fun e w' => ∃ A' n' c' B' m' d', e = .returned (.tuple #[(qSend ρ body group key delay).1.val (.slice A' n' c') (.slice B' m' d'), .int .i64 (qSend ρ body group key delay).2.1, .int .i64 (qSend ρ body group key delay).2.2]) ∧ Hp w0 w' (ADm (.slice A' n' c') (qSend ρ body group key delay).1.l :: AKy (.slice B' m' d') (qSend ρ body group key delay).1.k :: Ps) := by
  obtain ⟨a, now, next, l, k⟩ := ρ
  have HI := Lib.hid hi
  have HM := Lib.hid hm
  have H := Lib.hid h
  have HB := Lib.hid (h.alloc (.cells #[.int .i64 a.vis, .int .i64 a.ret, .int .i64 a.del, .int .i64 a.win, .int .i64 a.max, .string a.dead, .bool a.fifo, .int .i64 now, .int .i64 next, .slice A n c, .slice A2 n2 c2'] 58))
  have HZ := Lib.hid (HB.out.alloc (.cells #[.int .i64 0, .int .i64 0, .int .i64 0, .int .i64 0, .int .i64 0, .string ⟨#[]⟩, .bool false, .int .i64 0, .int .i64 0, .slice none 0 0, .slice none 0 0] 58))
  have hsz1 : (w.alloc (.cells #[.int .i64 a.vis, .int .i64 a.ret, .int .i64 a.del, .int .i64 a.win, .int .i64 a.max, .string a.dead, .bool a.fifo, .int .i64 now, .int .i64 next, .slice A n c, .slice A2 n2 c2'] 58)).heap.size = w.heap.size + 1 := by simp
  rw [hsz1] at HZ
  clear hsz1
  obtain ⟨c0, c1, c2, c3, c4, c5, c6, c7, c8, c9, c10, cf⟩ := blk11 HZ.out.blk1
  clear cf
  rw [show Qs.val ⟨a, now, next, l, k⟩ (.slice A n c) (.slice A2 n2 c2') = .agg #[.int .i64 a.vis, .int .i64 a.ret, .int .i64 a.del, .int .i64 a.win, .int .i64 a.max, .string a.dead, .bool a.fifo, .int .i64 now, .int .i64 next, .slice A n c, .slice A2 n2 c2'] from rfl]
  have hL1 := Kd.R_reads' h.head
  have hK1 := Kd.R_reads' h.tail.head
  have HNL := Lib.hid (show l.length ≤ 1024 ∧ k.length ≤ 4096 from ⟨hi.len, hi.klen⟩)
  have HLN := Lib.hid (show n = l.length by have := hL1.1; rwa [List.length_map] at this)
  have HKN := Lib.hid (show n2 = k.length from hK1.1)
  have hnow := hi.now
  dsimp only at hnow
  have hnxt := hi.nxt
  dsimp only at hnxt
  have hrt := hi.right
  unfold qRight at hrt
  rw [decide_eq_true_iff] at hrt
  dsimp only at hrt
  obtain ⟨⟨h1, h2, h3⟩, hmc⟩ := may_yes hm
  dsimp only at hmc
  have hdb : 0 ≤ (if delay < 0 then a.del else delay) ∧ (if delay < 0 then a.del else delay) ≤ 1048576 := by
    split <;> omega
  have hdc : (delay = -1 ∧ (if delay < 0 then a.del else delay) = a.del) ∨ (delay ≠ -1 ∧ (if delay < 0 then a.del else delay) = delay) := by
    by_cases hd : delay = -1
    · exact .inl ⟨hd, by rw [if_pos (by omega)]⟩
    · exact .inr ⟨hd, by rw [if_neg (by omega)]⟩
  obtain ⟨D, hD⟩ : ∃ D, D = if delay < 0 then a.del else delay := ⟨_, rfl⟩
  rw [← hD] at hdb hdc
  have HDL := Lib.hid hD
  have HDB := Lib.hid (And.intro hdb hdc)
  have HWD : Hid (IntKind.i64.wrap (now + delay) = now + delay) := Lib.hid (IntWalk.i64_in _ (by omega))
  have HWA : Hid (IntKind.i64.wrap (now + a.del) = now + a.del) := Lib.hid (IntWalk.i64_in _ (by omega))
  have HS1 : Hid (wrap64 (next + 1) = next + 1) := Lib.hid ((i64_w _).symm.trans (IntWalk.i64_in _ (by omega)))
  have HS3 : Hid (wrap64 next = next) := Lib.hid ((i64_w _).symm.trans (IntWalk.i64_in _ (by omega)))
  have HWR : Hid (wrap64 (now + a.win) = now + a.win) := Lib.hid ((i64_w _).symm.trans (IntWalk.i64_in _ (by omega)))
  have HMC := Lib.hid hmc
  have hie := isEmpty_size group
  have hieK := isEmpty_size key
  have HIG := Lib.hid hie
  have HIK := Lib.hid hieK
  clear h hi hm hL1 hK1 hnow hnxt hrt hmc hdb hdc hD hie hieK
  go_enter Tryz.func52, Tryz.ntmps52
  go_upto_region 3 with (fail)
  go_cut [57] (fun b wx => b = .bool false ∧ Hp w0 wx (ABlk (w.heap.size + 1) (.cells #[.int .i64 0, .int .i64 0, .int .i64 0, .int .i64 0, .int .i64 0, .string ⟨#[]⟩, .bool false, .int .i64 0, .int .i64 0, .slice none 0 0, .slice none 0 0] 58) :: ABlk w.heap.size (.cells #[.int .i64 a.vis, .int .i64 a.ret, .int .i64 a.del, .int .i64 a.win, .int .i64 a.max, .string a.dead, .bool a.fifo, .int .i64 now, .int .i64 next, .slice A n c, .slice A2 n2 c2'] 58) :: ADm (.slice A n c) l :: AKy (.slice A2 n2 c2') k :: Ps))
  case first =>
    have hie := HIG.out
    have hmc := HMC.out
    clear HMC
    generalize a.fifo = ff at *
    rcases hmc with ⟨rfl, g2, rfl⟩ | ⟨rfl, g2, g3, g4⟩
    all_goals
      first
        | (rw [decide_eq_true g2] at hie; have hk0 := nil_size g2)
        | rw [decide_eq_false g2] at hie
      clear g2
      go_wp2_with fail
      go_meet
      case rel => exact ⟨rfl, HZ.out⟩
  case rest =>
    obtain ⟨rfl, hX⟩ := hcut
    have HX := Lib.hid hX
    clear hX c0 c1 c2 c3 c4 c5 c6 c7 c8 c9 c10
    obtain ⟨c0, c1, c2, c3, c4, c5, c6, c7, c8, c9, c10, cf⟩ := blk11 HX.out.blk1
    clear cf
    have hn24 : n2 ≤ 4096 := by have := HKN.out; have := HNL.out; omega
    go_wp2_with fail
    go_loopw [13] (fun i wr => ∃ j : Nat, i = .int .i64 j ∧ j ≤ n2 ∧ Hid (NoKey key k j) ∧ Hp w0 wr (ABlk (w.heap.size + 1) (.cells #[.int .i64 0, .int .i64 0, .int .i64 0, .int .i64 0, .int .i64 0, .string ⟨#[]⟩, .bool false, .int .i64 0, .int .i64 0, .slice none 0 0, .slice none 0 0] 58) :: ABlk w.heap.size (.cells #[.int .i64 a.vis, .int .i64 a.ret, .int .i64 a.del, .int .i64 a.win, .int .i64 a.max, .string a.dead, .bool a.fifo, .int .i64 now, .int .i64 next, .slice A n c, .slice A2 n2 c2'] 58) :: ADm (.slice A n c) l :: AKy (.slice A2 n2 c2') k :: Ps)) (fun i _ => n2 - (intOf i).toNat)
    case atStart => exact ⟨0, rfl, Nat.zero_le _, Lib.hid (NoKey.zero key k), HX.out⟩
    case round =>
      obtain ⟨j, rfl, hj, hNK, hQ⟩ := hrel
      have HQ := Lib.hid hQ
      clear hQ
      clear c0 c1 c2 c3 c4 c5 c6 c7 c8 c9 c10
      obtain ⟨c0, c1, c2, c3, c4, c5, c6, c7, c8, c9, c10, cf⟩ := blk11 HQ.out.blk1
      clear cf
      by_cases hjn : j < n2
      · have hKR := Kd.R_reads' HQ.out.tail.tail.tail.head
        obtain ⟨ad, x, rfl, hx, e0, e1, _⟩ := C_nth_ky hKR.2.2 j (by have := HKN.out; omega)
        have i0 : (0 : Int) ≤ (j : Int) := by omega
        have i1 : (j : Int) < (n2 : Int) := by omega
        have HXX := Lib.hid hx
        clear hKR hx
        by_cases hk : x.1 = key
        · have he : (x.1.toList == key.toList) = true := by rw [hk]; simp
          have HE := Lib.hid (show qSend ⟨a, now, next, l, k⟩ body group key delay = (⟨a, now, next, l, k⟩, (x.2.1, 0)) by
            unfold qSend
            rw [if_neg (by rw [HM.out]; decide), show mget (Qs.k ⟨a, now, next, l, k⟩) key = some x.2 from NoKey.found hNK.out HXX.out hk])
          clear hk hNK
          have HQd := Lib.hid (HQ.out.below (Below.refl _ _).drew)
          have hKR := Kd.R_reads' HQd.out.tail.tail.tail.head
          obtain ⟨ad', x', hae, hx', _, g1, _⟩ := C_nth_ky hKR.2.2 j (by have := HKN.out; omega)
          obtain rfl : ad = ad' := Option.some.inj hae
          obtain rfl : x = x' := Option.some.inj (HXX.out.symm.trans hx')
          clear hKR hae hx'
          clear c0 c1 c2 c3 c4 c5 c6 c7 c8 c9
          go_wp2_with fail
          clear c10 e0 e1
          refine start_ (n := 10) (S := fun w' => w'.heap[w.heap.size]? = some (.cells #[.int .i64 a.vis, .int .i64 a.ret, .int .i64 a.del, .int .i64 a.win, .int .i64 a.max, .string a.dead, .bool a.fifo, .int .i64 now, .int .i64 next, .slice A n c, .slice (some ad) n2 c2'] 58) ∧ w'.cell? ⟨(ad.add (j * 3)).block, (ad.add (j * 3)).off + 1, none⟩ = some (.int .i64 x.2.1)) (ds := []) #[false, false, false, false, false, false, false, false, false, false] (by kernel_rfl) rfl rfl (⟨HQd.out.blk1, g1⟩) (fun hHeld => ?_)
          generalize wr.drew = wd at *
          refine pure_ (i := 1) (N := (some 75)) (v := ?_) (a' := ?_) #[false, true, false, false, false, false, false, false, false, false] rfl rfl (by kernel_rfl) (fun _ _ _ h => h) (Or.inl ⟨by rfl, ?_⟩) ?_ ?_
          rotate_left
          · intro w'
            go_simp
            with_reducible rfl
          rotate_left
          · simp only [Act.put, List.setIfInBounds_toArray, List.set_cons_zero, List.set_cons_succ, i64_w, i32_w]
            rfl
          refine pure_ (i := 3) (N := (some 77)) (v := ?_) (a' := ?_) #[false, true, false, true, false, false, false, false, false, false] rfl rfl (by kernel_rfl) (fun _ _ _ h => h) (Or.inl ⟨by rfl, ?_⟩) ?_ ?_
          rotate_left
          · intro w'
            go_simp
            with_reducible rfl
          rotate_left
          · simp only [Act.put, List.setIfInBounds_toArray, List.set_cons_zero, List.set_cons_succ, i64_w, i32_w]
            rfl
          refine take_ (i := 0) (N := (some 74)) (v := ?_) (a' := ?_) #[true, true, false, true, false, false, false, false, false, false] rfl rfl (by kernel_rfl) (fun _ _ _ h => h) (Or.inl ⟨by rfl, ?_⟩) hHeld ?_ ?_
          rotate_left
          · rintro w' ⟨sb, s1⟩
            obtain ⟨f0, f1, f2, f3, f4, f5, f6, f7, f8, f9, f10, _⟩ := blk11 sb
            go_simp
            with_reducible rfl
          rotate_left
          · simp only [Act.put, List.setIfInBounds_toArray, List.set_cons_zero, List.set_cons_succ, i64_w, i32_w]
            rfl
          refine take_ (i := 2) (N := (some 76)) (v := ?_) (a' := ?_) #[true, true, true, true, false, false, false, false, false, false] rfl rfl (by kernel_rfl) (fun _ _ _ h => h) (Or.inl ⟨by rfl, ?_⟩) hHeld ?_ ?_
          rotate_left
          · rintro w' ⟨sb, s1⟩
            obtain ⟨f0, f1, f2, f3, f4, f5, f6, f7, f8, f9, f10, _⟩ := blk11 sb
            go_simp
            with_reducible rfl
          rotate_left
          · simp only [Act.put, List.setIfInBounds_toArray, List.set_cons_zero, List.set_cons_succ, i64_w, i32_w]
            rfl
          refine pure_ (i := 4) (N := (some 78)) (v := ?_) (a' := ?_) #[true, true, true, true, true, false, false, false, false, false] rfl rfl (by kernel_rfl) (fun _ _ _ h => h) (Or.inl ⟨by rfl, ?_⟩) ?_ ?_
          rotate_left
          · intro w'
            go_simp
            with_reducible rfl
          rotate_left
          · simp only [Act.put, List.setIfInBounds_toArray, List.set_cons_zero, List.set_cons_succ, i64_w, i32_w]
            rfl
          refine pure_ (i := 5) (N := (some 79)) (v := ?_) (a' := ?_) #[true, true, true, true, true, true, false, false, false, false] rfl rfl (by kernel_rfl) (fun _ _ _ h => h) (Or.inl ⟨by rfl, ?_⟩) ?_ ?_
          rotate_left
          · intro w'
            go_simp
            with_reducible rfl
          rotate_left
          · simp only [Act.put, List.setIfInBounds_toArray, List.set_cons_zero, List.set_cons_succ, i64_w, i32_w]
            rfl
          refine take_ (i := 6) (N := (some 80)) (v := ?_) (a' := ?_) #[true, true, true, true, true, true, true, false, false, false] rfl rfl (by kernel_rfl) (fun _ _ _ h => h) (Or.inl ⟨by rfl, ?_⟩) hHeld ?_ ?_
          rotate_left
          · rintro w' ⟨sb, s1⟩
            go_simp
            with_reducible rfl
          rotate_left
          · simp only [Act.put, List.setIfInBounds_toArray, List.set_cons_zero, List.set_cons_succ, i64_w, i32_w]
            rfl
          have HWW := Lib.hid (HQd.out.set11 (.int .i64 a.vis) (.int .i64 a.ret) (.int .i64 a.del) (.int .i64 a.win) (.int .i64 a.max) (.string a.dead) (.bool a.fifo) (.int .i64 now) (.int .i64 next) (.slice A n c) (.slice (some ad) n2 c2'))
          obtain ⟨z0, z1, z2, z3, z4, z5, z6, z7, z8, z9, z10, zf⟩ := blk11 HQd.out.blk0
          refine one_ (i := 7) (N := none) #[true, true, true, true, true, true, true, true, false, false] rfl rfl (by kernel_rfl) (by decide) (fun K hK => ?_)
          refine skip_ (w1 := ?_) (by rfl) rfl ?_ ?_
          rotate_left
          · go_simp
            rfl
          refine hK.out _ _ (⟨HWW.out.blk1, by obtain ⟨ad', x', hae, hx', _, g2, _⟩ := C_nth_ky (Kd.R_reads' HWW.out.tail.tail.tail.head).2.2 j (by have := HKN.out; omega); obtain rfl : ad = ad' := Option.some.inj hae; obtain rfl : x = x' := Option.some.inj (HXX.out.symm.trans hx'); exact g2⟩) (fun hHeld => ?_)
          clear hK K
          generalize (((((((((((wd.setCell ⟨w.heap.size + 1, 0, none⟩ (.int .i64 a.vis)).setCell ⟨w.heap.size + 1, 1, none⟩ (.int .i64 a.ret)).setCell ⟨w.heap.size + 1, 2, none⟩ (.int .i64 a.del)).setCell ⟨w.heap.size + 1, 3, none⟩ (.int .i64 a.win)).setCell ⟨w.heap.size + 1, 4, none⟩ (.int .i64 a.max)).setCell ⟨w.heap.size + 1, 5, none⟩ (.string a.dead)).setCell ⟨w.heap.size + 1, 6, none⟩ (.bool a.fifo)).setCell ⟨w.heap.size + 1, 7, none⟩ (.int .i64 now)).setCell ⟨w.heap.size + 1, 8, none⟩ (.int .i64 next)).setCell ⟨w.heap.size + 1, 9, none⟩ (.slice A n c)).setCell ⟨w.heap.size + 1, 10, none⟩ (.slice (some ad) n2 c2')) = W at *
          refine pure_ (i := 8) (N := (some 11)) (v := ?_) (a' := ?_) #[true, true, true, true, true, true, true, true, true, false] rfl rfl (by kernel_rfl) (fun _ _ _ h => h) (Or.inl ⟨by rfl, ?_⟩) ?_ ?_
          rotate_left
          · intro w'
            go_simp
            with_reducible rfl
          rotate_left
          · simp only [Act.put, List.setIfInBounds_toArray, List.set_cons_zero, List.set_cons_succ, i64_w, i32_w]
            rfl
          refine pure_ (i := 9) (N := (some 12)) (v := ?_) (a' := ?_) #[true, true, true, true, true, true, true, true, true, true] rfl rfl (by kernel_rfl) (fun _ _ _ h => h) (Or.inl ⟨by rfl, ?_⟩) ?_ ?_
          rotate_left
          · intro w'
            go_simp
            with_reducible rfl
          rotate_left
          · simp only [Act.put, List.setIfInBounds_toArray, List.set_cons_zero, List.set_cons_succ, i64_w, i32_w]
            rfl
          refine done_ (by kernel_rfl) ?_
          go_wp2_with fail
          obtain ⟨y0, y1, y2, y3, y4, y5, y6, y7, y8, y9, y10, _⟩ := blk11 HWW.out.blk0
          exact bodyPost_ret (v := .tuple #[.agg #[.int .i64 a.vis, .int .i64 a.ret, .int .i64 a.del, .int .i64 a.win, .int .i64 a.max, .string a.dead, .bool a.fifo, .int .i64 now, .int .i64 next, .slice A n c, .slice (some ad) n2 c2'], .int .i64 x.2.1, .int .i64 0]) (by simp [results, Tryz.results52, go_sem, y0, y1, y2, y3, y4, y5, y6, y7, y8, y9, y10]) rfl ⟨A, n, c, _, n2, c2', by rw [HE.out]; rfl, by rw [HE.out]; exact HWW.out.tail.tail⟩

        · have he : (x.1.toList == key.toList) = false := by
            rw [beq_eq_false_iff_ne]
            intro h
            rw [Go.ByteArray.toList_eq, Go.ByteArray.toList_eq] at h
            exact hk (ByteArray.ext (Array.toList_inj.1 h))
          have HNN := Lib.hid (NoKey.succ hNK.out HXX.out hk)
          clear hk hNK
          go_wp2_with fail
          refine ⟨⟨j + 1, by simp, by omega, HNN.out, HQ.out⟩, ?_⟩
          simp [intOf]
          omega
      · have hjn' : j = n2 := by omega
        subst hjn'
        have HMG := Lib.hid (show mget (Qs.k ⟨a, now, next, l, k⟩) key = none from NoKey.none (by have := hNK.out; rwa [HKN.out] at this))
        have hnn : n ≤ 1024 := by have := HLN.out; have := HNL.out; omega
        clear hNK
        cases hfull : qFull ⟨a, now, next, l, k⟩ key
        case true =>
          have HE := Lib.hid (show qSend ⟨a, now, next, l, k⟩ body group key delay = (⟨a, now, next, l, k⟩, (0, 5)) by
            unfold qSend
            rw [if_neg (by rw [HM.out]; decide), HMG.out]
            dsimp only
            rw [if_pos hfull])
          have hfc : (1024 : Int) ≤ (n : Int) ∨ (¬ (1024 : Int) ≤ (n : Int) ∧ key.size ≠ 0 ∧ 0 < a.win ∧ (4096 : Int) ≤ (j : Int)) := by
            unfold qFull qKnows at hfull
            dsimp only at hfull
            have e1 := HLN.out
            have e2 := HKN.out
            rw [Bool.or_eq_true, Bool.and_eq_true, decide_eq_true_iff, decide_eq_true_iff, decide_eq_true_iff] at hfull
            omega
          have hie := HIK.out
          clear hfull
          rcases hfc with h4 | ⟨h4, h5, h6, h7⟩
          all_goals
            try rw [decide_eq_false h5] at hie
            obtain ⟨z0, z1, z2, z3, z4, z5, z6, z7, z8, z9, z10, zf⟩ := blk11 HQ.out.blk0
            go_wp2_with fail
            have hW := HQ.out.set11 (.int .i64 a.vis) (.int .i64 a.ret) (.int .i64 a.del) (.int .i64 a.win) (.int .i64 a.max) (.string a.dead) (.bool a.fifo) (.int .i64 now) (.int .i64 next) (.slice A n c) (.slice A2 j c2')
            generalize (((((((((((wr.setCell ⟨w.heap.size + 1, 0, none⟩ (.int .i64 a.vis)).setCell ⟨w.heap.size + 1, 1, none⟩ (.int .i64 a.ret)).setCell ⟨w.heap.size + 1, 2, none⟩ (.int .i64 a.del)).setCell ⟨w.heap.size + 1, 3, none⟩ (.int .i64 a.win)).setCell ⟨w.heap.size + 1, 4, none⟩ (.int .i64 a.max)).setCell ⟨w.heap.size + 1, 5, none⟩ (.string a.dead)).setCell ⟨w.heap.size + 1, 6, none⟩ (.bool a.fifo)).setCell ⟨w.heap.size + 1, 7, none⟩ (.int .i64 now)).setCell ⟨w.heap.size + 1, 8, none⟩ (.int .i64 next)).setCell ⟨w.heap.size + 1, 9, none⟩ (.slice A n c)).setCell ⟨w.heap.size + 1, 10, none⟩ (.slice A2 j c2')) = W at *
            obtain ⟨d0, d1, d2, d3, d4, d5, d6, d7, d8, d9, d10, _⟩ := blk11 hW.blk0
            exact bodyPost_ret (v := .tuple #[.agg #[.int .i64 a.vis, .int .i64 a.ret, .int .i64 a.del, .int .i64 a.win, .int .i64 a.max, .string a.dead, .bool a.fifo, .int .i64 now, .int .i64 next, .slice A n c, .slice A2 j c2'], .int .i64 0, .int .i64 5]) (by simp [results, Tryz.results52, go_sem, d0, d1, d2, d3, d4, d5, d6, d7, d8, d9, d10]) rfl ⟨A, n, c, A2, j, c2', by rw [HE.out]; rfl, by rw [HE.out]; exact hW.tail.tail⟩
        case false =>
          have HE := Lib.hid (show qSend ⟨a, now, next, l, k⟩ body group key delay = (qSent ⟨a, now, next, l, k⟩ body group key delay, (next, 0)) by
            unfold qSend
            rw [if_neg (by rw [HM.out]; decide), HMG.out]
            dsimp only
            rw [if_neg (by rw [hfull]; decide)])
          have HFC := Lib.hid (show ¬ (1024 : Int) ≤ (n : Int) ∧ (key.size = 0 ∨ (key.size ≠ 0 ∧ ¬ 0 < a.win) ∨ (key.size ≠ 0 ∧ 0 < a.win ∧ ¬ (4096 : Int) ≤ (j : Int))) by
            unfold qFull qKnows at hfull
            dsimp only at hfull
            have e1 := HLN.out
            have e2 := HKN.out
            rw [Bool.or_eq_false_iff, Bool.and_eq_false_iff, decide_eq_false_iff_not, decide_eq_false_iff_not, decide_eq_false_iff_not] at hfull
            omega)
          clear hfull
          go_upto_region 10 with (fail)
          go_cut [100] (fun b wx => b = .bool false ∧ wx = wr)
          case first =>
            have hie := HIK.out
            obtain ⟨h4, hkc⟩ := HFC.out
            rcases hkc with h5 | ⟨h5, h6⟩ | ⟨h5, h6, h7⟩
            all_goals
              first
                | (rw [decide_eq_true h5] at hie; have hk0 := nil_size h5)
                | rw [decide_eq_false h5] at hie
              go_wp2_with fail
              go_meet
              case rel => exact ⟨rfl, rfl⟩
          case rest =>
            obtain ⟨rfl, rfl⟩ := hcut
            go_upto_if 107 with (fail)
            go_cut [14] (fun s wx => s = .int .i64 (now + D) ∧ wx = wc)
            case first =>
              obtain ⟨_, hdc⟩ := HDB.out
              have HW3 := Lib.hid (show wrap64 (now + delay) = now + delay from (i64_w _).symm.trans HWD.out)
              have HW4 := Lib.hid (show wrap64 (now + a.del) = now + a.del from (i64_w _).symm.trans HWA.out)
              rcases hdc with ⟨g1, g2⟩ | ⟨g1, g2⟩
              case' inl => have he : (delay == -1) = true := by rw [g1]; rfl
              case' inr => have he : (delay == -1) = false := by simpa using g1
              all_goals
                have HG2 := Lib.hid g2
                clear g1 g2
                go_wp2_with fail
                go_meet
                case rel => exact ⟨by rw [HG2.out]; first | exact congrArg (Value.int .i64) HW3.out | exact congrArg (Value.int .i64) HW4.out, rfl⟩
            case rest =>
              obtain ⟨rfl, rfl⟩ := hcut
              obtain ⟨ys, hys⟩ : ∃ ys : List Msg, ys = l ++ [⟨next, now, 0, now + D, 0, false, body, group⟩] := ⟨_, rfl⟩
              have HYS := Lib.hid (show ys.map Msg.doc = l.map Msg.doc ++ [(next, (now, (0, (now + D, (false, (body, group))))))] by rw [hys, List.map_append]; rfl)
              obtain ⟨n9, hn9⟩ : ∃ n9, n9 = (ys.map Msg.doc).length := ⟨_, rfl⟩
              have HN9 := Lib.hid hn9
              obtain ⟨m9, hm9⟩ : ∃ m9, m9 = (k ++ [(key, (next, now + a.win))]).length := ⟨_, rfl⟩
              have HM9 := Lib.hid hm9
              have HLL := Lib.hid (show l.length < 1024 ∧ n = l.length by have := HFC.out.1; have := HLN.out; omega)
              have HYE := Lib.hid (show qSend ⟨a, now, next, l, k⟩ body group key delay = (⟨a, now, next + 1, ys, if qKnows a key then k ++ [(key, (next, now + a.win))] else k⟩, (next, 0)) by
                rw [HE.out]
                unfold qSent
                dsimp only
                rw [← HDL.out, ← hys])
              clear hys hn9 hm9 HE
              have HE := HYE
              clear HYE
              have HQd := Lib.hid (HQ.out.below (Below.refl _ _).drew)
              go_wp2_with fail
              refine start_ (n := 16) (S := fun w' => w'.cell? ⟨w.heap.size, 9, none⟩ = some (.slice A n c) ∧ w'.cell? ⟨w.heap.size, 8, none⟩ = some (.int .i64 next) ∧ w'.cell? ⟨w.heap.size, 7, none⟩ = some (.int .i64 now)) (ds := [15]) #[false, false, false, false, false, false, false, false, false, false, false, false, false, false, false, false] (by kernel_rfl) rfl rfl (⟨(blk11 HQd.out.blk1).2.2.2.2.2.2.2.2.2.1, (blk11 HQd.out.blk1).2.2.2.2.2.2.2.2.1, (blk11 HQd.out.blk1).2.2.2.2.2.2.2.1⟩) (fun hHeld => ?_)
              generalize wc.drew = wd at *
              refine pure_ (i := 1) (N := (some 115)) (v := ?_) (a' := ?_) #[false, true, false, false, false, false, false, false, false, false, false, false, false, false, false, false] rfl rfl (by kernel_rfl) (fun _ _ _ h => h) (Or.inl ⟨by rfl, ?_⟩) ?_ ?_
              rotate_left
              · intro w'
                go_simp
                with_reducible rfl
              rotate_left
              · simp only [Act.put, List.setIfInBounds_toArray, List.set_cons_zero, List.set_cons_succ, i64_w, i32_w]
                rfl
              refine pure_ (i := 4) (N := (some 118)) (v := ?_) (a' := ?_) #[false, true, false, false, true, false, false, false, false, false, false, false, false, false, false, false] rfl rfl (by kernel_rfl) (fun _ _ _ h => h) (Or.inl ⟨by rfl, ?_⟩) ?_ ?_
              rotate_left
              · intro w'
                go_simp
                with_reducible rfl
              rotate_left
              · simp only [Act.put, List.setIfInBounds_toArray, List.set_cons_zero, List.set_cons_succ, i64_w, i32_w]
                rfl
              refine pure_ (i := 6) (N := (some 120)) (v := ?_) (a' := ?_) #[false, true, false, false, true, false, true, false, false, false, false, false, false, false, false, false] rfl rfl (by kernel_rfl) (fun _ _ _ h => h) (Or.inl ⟨by rfl, ?_⟩) ?_ ?_
              rotate_left
              · intro w'
                go_simp
                with_reducible rfl
              rotate_left
              · simp only [Act.put, List.setIfInBounds_toArray, List.set_cons_zero, List.set_cons_succ, i64_w, i32_w]
                rfl
              refine pure_ (i := 8) (N := (some 122)) (v := ?_) (a' := ?_) #[false, true, false, false, true, false, true, false, true, false, false, false, false, false, false, false] rfl rfl (by kernel_rfl) (fun _ _ _ h => h) (Or.inl ⟨by rfl, ?_⟩) ?_ ?_
              rotate_left
              · intro w'
                go_simp
                with_reducible rfl
              rotate_left
              · simp only [Act.put, List.setIfInBounds_toArray, List.set_cons_zero, List.set_cons_succ, i64_w, i32_w]
                rfl
              refine pure_ (i := 9) (N := (some 123)) (v := ?_) (a' := ?_) #[false, true, false, false, true, false, true, false, true, true, false, false, false, false, false, false] rfl rfl (by kernel_rfl) (fun _ _ _ h => h) (Or.inl ⟨by rfl, ?_⟩) ?_ ?_
              rotate_left
              · intro w'
                go_simp
                with_reducible rfl
              rotate_left
              · simp only [Act.put, List.setIfInBounds_toArray, List.set_cons_zero, List.set_cons_succ, i64_w, i32_w]
                rfl
              refine pure_ (i := 10) (N := (some 124)) (v := ?_) (a' := ?_) #[false, true, false, false, true, false, true, false, true, true, true, false, false, false, false, false] rfl rfl (by kernel_rfl) (fun _ _ _ h => h) (Or.inl ⟨by rfl, ?_⟩) ?_ ?_
              rotate_left
              · intro w'
                go_simp
                with_reducible rfl
              rotate_left
              · simp only [Act.put, List.setIfInBounds_toArray, List.set_cons_zero, List.set_cons_succ, i64_w, i32_w]
                rfl
              refine take_ (i := 2) (N := (some 116)) (v := ?_) (a' := ?_) #[false, true, true, false, true, false, true, false, true, true, true, false, false, false, false, false] rfl rfl (by kernel_rfl) (fun _ _ _ h => h) (Or.inl ⟨by rfl, ?_⟩) hHeld ?_ ?_
              rotate_left
              · rintro w' ⟨s9, s8, s7⟩
                go_simp
                with_reducible rfl
              rotate_left
              · simp only [Act.put, List.setIfInBounds_toArray, List.set_cons_zero, List.set_cons_succ, i64_w, i32_w]
                rfl
              refine take_ (i := 5) (N := (some 119)) (v := ?_) (a' := ?_) #[false, true, true, false, true, true, true, false, true, true, true, false, false, false, false, false] rfl rfl (by kernel_rfl) (fun _ _ _ h => h) (Or.inl ⟨by rfl, ?_⟩) hHeld ?_ ?_
              rotate_left
              · rintro w' ⟨s9, s8, s7⟩
                go_simp
                with_reducible rfl
              rotate_left
              · simp only [Act.put, List.setIfInBounds_toArray, List.set_cons_zero, List.set_cons_succ, i64_w, i32_w]
                rfl
              refine take_ (i := 7) (N := (some 121)) (v := ?_) (a' := ?_) #[false, true, true, false, true, true, true, true, true, true, true, false, false, false, false, false] rfl rfl (by kernel_rfl) (fun _ _ _ h => h) (Or.inl ⟨by rfl, ?_⟩) hHeld ?_ ?_
              rotate_left
              · rintro w' ⟨s9, s8, s7⟩
                go_simp
                with_reducible rfl
              rotate_left
              · simp only [Act.put, List.setIfInBounds_toArray, List.set_cons_zero, List.set_cons_succ, i64_w, i32_w]
                rfl
              refine pure_ (i := 11) (N := (some 125)) (v := ?_) (a' := ?_) #[false, true, true, false, true, true, true, true, true, true, true, true, false, false, false, false] rfl rfl (by kernel_rfl) (fun _ _ _ h => h) (Or.inl ⟨by rfl, ?_⟩) ?_ ?_
              rotate_left
              · intro w'
                go_simp
                with_reducible rfl
              rotate_left
              · simp only [Act.put, List.setIfInBounds_toArray, List.set_cons_zero, List.set_cons_succ, i64_w, i32_w]
                rfl
              have HNX := Lib.hid hHeld
              clear hHeld
              refine join_ (σ := Value × (Value × Value)) 3 #[true, true, true, true, true, true, true, true, true, true, true, true, true, false, false, false] (fun s => [(114, s.1), (117, s.2.1), (126, s.2.2)]) (fun s w' => Hp w0 w' (ARow KDm 111 s.2.1 (l.map Msg.doc) :: ARow KDm 111 s.2.2 [(next, (now, (0, (now + D, (false, (body, group))))))] :: ABlk (w.heap.size + 1) (.cells #[.int .i64 0, .int .i64 0, .int .i64 0, .int .i64 0, .int .i64 0, .string ⟨#[]⟩, .bool false, .int .i64 0, .int .i64 0, .slice none 0 0, .slice none 0 0] 58) :: ABlk w.heap.size (.cells #[.int .i64 a.vis, .int .i64 a.ret, .int .i64 a.del, .int .i64 a.win, .int .i64 a.max, .string a.dead, .bool a.fifo, .int .i64 now, .int .i64 next, .slice A n c, .slice A2 j c2'] 58) :: ADm (.slice A n c) l :: AKy (.slice A2 j c2') k :: Ps)) ?_ (fun hJ => ?_)
              rotate_left
              refine two_ (i := 0) (j := 12) (Ni := (some 114)) (Nj := (some 126)) #[true, true, true, false, true, true, true, true, true, true, true, true, false, false, false, false] #[false, true, true, false, true, true, true, true, true, true, true, true, true, false, false, false] rfl rfl rfl rfl (by kernel_rfl) (by decide) (by decide) (fun K hK => ?_) (fun K hK => ?_)
              · refine Kd.R_lit_step KDm (w0 := wd) wd.heap.size 111 ?hg (N := 114) ?hd (xs := ([] : List Dm)) (inner := []) (ok := fun _ => True) (okp := fun _ => True) ?hr ?hp (fun _ hk => hk) trivial (Below.refl _ _) (Nat.le_refl _) (by simp) ?_; (case hd => rfl); (case hg => rfl); (case hr => first | (go_simp; done) | (go_simp; rfl)); (case hp => exact (Reps.none _ _))
                intro vA wA hRA hBA _ _
                have HA := Lib.hid (HQd.out.row hBA hRA)
                clear hRA hBA
                refine hK.out _ _ (⟨(blk11 HA.out.blk2).2.2.2.2.2.2.2.2.2.1, (blk11 HA.out.blk2).2.2.2.2.2.2.2.2.1, (blk11 HA.out.blk2).2.2.2.2.2.2.2.1⟩) (fun hHeld => ?_)
                clear hK K
                refine norm_ (a' := ?_) ?_ ?_
                rotate_left
                · show Act.put _ (some 114) _ = _
                  simp only [Act.put, List.setIfInBounds_toArray, List.set_cons_zero, List.set_cons_succ, i64_w, i32_w]
                  rfl
                refine two_ (i := 3) (j := 12) (Ni := (some 117)) (Nj := (some 126)) #[true, true, true, true, true, true, true, true, true, true, true, true, false, false, false, false] #[true, true, true, false, true, true, true, true, true, true, true, true, true, false, false, false] rfl rfl rfl rfl (by kernel_rfl) (by decide) (by decide) (fun K hK => ?_) (fun K hK => ?_)
                · obtain ⟨okr, hR1, hR2, hR3⟩ := (HA.out).appended
                  have hCl := Kd.R_reads' (HA.out.tail.tail.tail.head)
                  refine Kd.R_append_rows_step KDm (w0 := wA) 0 (by rfl) (.tmp 114) (.tmp 116) 55 111 (.agg #[.int .i64 0, .int .i64 0, .int .i64 0, .int .i64 0, .bool false, .string ⟨#[]⟩, .string ⟨#[]⟩]) 72 rfl Tryz.underlying55 info_dm rfl (by decide) (by omega) vA [] (l.map Msg.doc) A n c okr (fun _ => False) rfl rfl hR1 (by rw [hCl.1]; exact hCl.2.2) (fun _ _ h => h) (fun _ h => h.elim) hR2 (Below.refl _ _) (Nat.zero_le _) (by have := HNL.out; simp; omega) ?_
                  intro vB wB hRB _ hgB _
                  have HB := Lib.hid (hR3 vB wB _ hRB ⟨hgB.os, hgB.tape, hgB.output, hgB.size, hgB.block⟩)
                  clear hRB hgB hR1 hR2 hR3 hCl okr
                  refine hK.out _ _ (⟨(blk11 HB.out.blk2).2.2.2.2.2.2.2.2.2.1, (blk11 HB.out.blk2).2.2.2.2.2.2.2.2.1, (blk11 HB.out.blk2).2.2.2.2.2.2.2.1⟩) (fun hHeld => ?_)
                  clear hK K
                  refine norm_ (a' := ?_) ?_ ?_
                  rotate_left
                  · show Act.put _ (some 117) _ = _
                    simp only [Act.put, List.setIfInBounds_toArray, List.set_cons_zero, List.set_cons_succ, i64_w, i32_w]
                    rfl
                  refine one_ (i := 12) (N := (some 126)) #[true, true, true, true, true, true, true, true, true, true, true, true, true, false, false, false] rfl rfl (by kernel_rfl) (by decide) (fun K hK => ?_)
                  refine Kd.R_lit_step KDm (w0 := wB) wB.heap.size 111 ?hg (N := 126) ?hd (xs := [((next, (now, (0, (now + D, (false, (body, group)))))) : Dm)]) (inner := Dm.cells (next, (now, (0, (now + D, (false, (body, group))))))) (ok := fun _ => True) (okp := fun _ => True) ?hr ?hp (fun _ hk => hk) trivial (Below.refl _ _) (Nat.le_refl _) (by simp) ?_; (case hd => rfl); (case hg => rfl); (case hr => first | (go_simp; done) | (go_simp; rfl)); (case hp => exact (Reps.none _ _).snoc (KDm_of _ _ _ _) rfl)
                  intro vC wC hRC hBC _ _
                  have HC := Lib.hid (HB.out.row hBC hRC)
                  clear hRC hBC
                  refine hK.out _ _ (⟨(blk11 HC.out.blk3).2.2.2.2.2.2.2.2.2.1, (blk11 HC.out.blk3).2.2.2.2.2.2.2.2.1, (blk11 HC.out.blk3).2.2.2.2.2.2.2.1⟩) (fun hHeld => ?_)
                  clear hK K
                  refine norm_ (a' := ?_) ?_ ?_
                  rotate_left
                  · show Act.put _ (some 126) _ = _
                    simp only [Act.put, List.setIfInBounds_toArray, List.set_cons_zero, List.set_cons_succ, i64_w, i32_w]
                    rfl
                  clear hHeld
                  refine norm_ ?_ (hJ (vA, (vB, vC)) _ HC.out.swap)
                  simp only [putAll, Act.put, List.setIfInBounds_toArray, List.set_cons_zero, List.set_cons_succ, i64_w, i32_w]
                  try rfl
                · refine Kd.R_lit_step KDm (w0 := wA) wA.heap.size 111 ?hg (N := 126) ?hd (xs := [((next, (now, (0, (now + D, (false, (body, group)))))) : Dm)]) (inner := Dm.cells (next, (now, (0, (now + D, (false, (body, group))))))) (ok := fun _ => True) (okp := fun _ => True) ?hr ?hp (fun _ hk => hk) trivial (Below.refl _ _) (Nat.le_refl _) (by simp) ?_; (case hd => rfl); (case hg => rfl); (case hr => first | (go_simp; done) | (go_simp; rfl)); (case hp => exact (Reps.none _ _).snoc (KDm_of _ _ _ _) rfl)
                  intro vC wC hRC hBC _ _
                  have HC := Lib.hid (HA.out.row hBC hRC)
                  clear hRC hBC
                  refine hK.out _ _ (⟨(blk11 HC.out.blk3).2.2.2.2.2.2.2.2.2.1, (blk11 HC.out.blk3).2.2.2.2.2.2.2.2.1, (blk11 HC.out.blk3).2.2.2.2.2.2.2.1⟩) (fun hHeld => ?_)
                  clear hK K
                  refine norm_ (a' := ?_) ?_ ?_
                  rotate_left
                  · show Act.put _ (some 126) _ = _
                    simp only [Act.put, List.setIfInBounds_toArray, List.set_cons_zero, List.set_cons_succ, i64_w, i32_w]
                    rfl
                  refine one_ (i := 3) (N := (some 117)) #[true, true, true, true, true, true, true, true, true, true, true, true, true, false, false, false] rfl rfl (by kernel_rfl) (by decide) (fun K hK => ?_)
                  obtain ⟨okr, hR1, hR2, hR3⟩ := (HC.out.swap).appended
                  have hCl := Kd.R_reads' (HC.out.tail.tail.tail.tail.head)
                  refine Kd.R_append_rows_step KDm (w0 := wC) 0 (by rfl) (.tmp 114) (.tmp 116) 55 111 (.agg #[.int .i64 0, .int .i64 0, .int .i64 0, .int .i64 0, .bool false, .string ⟨#[]⟩, .string ⟨#[]⟩]) 72 rfl Tryz.underlying55 info_dm rfl (by decide) (by omega) vA [] (l.map Msg.doc) A n c okr (fun _ => False) rfl rfl hR1 (by rw [hCl.1]; exact hCl.2.2) (fun _ _ h => h) (fun _ h => h.elim) hR2 (Below.refl _ _) (Nat.zero_le _) (by have := HNL.out; simp; omega) ?_
                  intro vB wB hRB _ hgB _
                  have HB := Lib.hid (hR3 vB wB _ hRB ⟨hgB.os, hgB.tape, hgB.output, hgB.size, hgB.block⟩)
                  clear hRB hgB hR1 hR2 hR3 hCl okr
                  refine hK.out _ _ (⟨(blk11 HB.out.blk3).2.2.2.2.2.2.2.2.2.1, (blk11 HB.out.blk3).2.2.2.2.2.2.2.2.1, (blk11 HB.out.blk3).2.2.2.2.2.2.2.1⟩) (fun hHeld => ?_)
                  clear hK K
                  refine norm_ (a' := ?_) ?_ ?_
                  rotate_left
                  · show Act.put _ (some 117) _ = _
                    simp only [Act.put, List.setIfInBounds_toArray, List.set_cons_zero, List.set_cons_succ, i64_w, i32_w]
                    rfl
                  clear hHeld
                  refine norm_ ?_ (hJ (vA, (vB, vC)) _ HB.out)
                  simp only [putAll, Act.put, List.setIfInBounds_toArray, List.set_cons_zero, List.set_cons_succ, i64_w, i32_w]
                  try rfl
              · refine Kd.R_lit_step KDm (w0 := wd) wd.heap.size 111 ?hg (N := 126) ?hd (xs := [((next, (now, (0, (now + D, (false, (body, group)))))) : Dm)]) (inner := Dm.cells (next, (now, (0, (now + D, (false, (body, group))))))) (ok := fun _ => True) (okp := fun _ => True) ?hr ?hp (fun _ hk => hk) trivial (Below.refl _ _) (Nat.le_refl _) (by simp) ?_; (case hd => rfl); (case hg => rfl); (case hr => first | (go_simp; done) | (go_simp; rfl)); (case hp => exact (Reps.none _ _).snoc (KDm_of _ _ _ _) rfl)
                intro vC wC hRC hBC _ _
                have HC := Lib.hid (HQd.out.row hBC hRC)
                clear hRC hBC
                refine hK.out _ _ (⟨(blk11 HC.out.blk2).2.2.2.2.2.2.2.2.2.1, (blk11 HC.out.blk2).2.2.2.2.2.2.2.2.1, (blk11 HC.out.blk2).2.2.2.2.2.2.2.1⟩) (fun hHeld => ?_)
                clear hK K
                refine norm_ (a' := ?_) ?_ ?_
                rotate_left
                · show Act.put _ (some 126) _ = _
                  simp only [Act.put, List.setIfInBounds_toArray, List.set_cons_zero, List.set_cons_succ, i64_w, i32_w]
                  rfl
                refine one_ (i := 0) (N := (some 114)) #[true, true, true, false, true, true, true, true, true, true, true, true, true, false, false, false] rfl rfl (by kernel_rfl) (by decide) (fun K hK => ?_)
                refine Kd.R_lit_step KDm (w0 := wC) wC.heap.size 111 ?hg (N := 114) ?hd (xs := ([] : List Dm)) (inner := []) (ok := fun _ => True) (okp := fun _ => True) ?hr ?hp (fun _ hk => hk) trivial (Below.refl _ _) (Nat.le_refl _) (by simp) ?_; (case hd => rfl); (case hg => rfl); (case hr => first | (go_simp; done) | (go_simp; rfl)); (case hp => exact (Reps.none _ _))
                intro vA wA hRA hBA _ _
                have HA := Lib.hid (HC.out.row hBA hRA)
                clear hRA hBA
                refine hK.out _ _ (⟨(blk11 HA.out.blk3).2.2.2.2.2.2.2.2.2.1, (blk11 HA.out.blk3).2.2.2.2.2.2.2.2.1, (blk11 HA.out.blk3).2.2.2.2.2.2.2.1⟩) (fun hHeld => ?_)
                clear hK K
                refine norm_ (a' := ?_) ?_ ?_
                rotate_left
                · show Act.put _ (some 114) _ = _
                  simp only [Act.put, List.setIfInBounds_toArray, List.set_cons_zero, List.set_cons_succ, i64_w, i32_w]
                  rfl
                refine one_ (i := 3) (N := (some 117)) #[true, true, true, true, true, true, true, true, true, true, true, true, true, false, false, false] rfl rfl (by kernel_rfl) (by decide) (fun K hK => ?_)
                obtain ⟨okr, hR1, hR2, hR3⟩ := (HA.out).appended
                have hCl := Kd.R_reads' (HA.out.tail.tail.tail.tail.head)
                refine Kd.R_append_rows_step KDm (w0 := wA) 0 (by rfl) (.tmp 114) (.tmp 116) 55 111 (.agg #[.int .i64 0, .int .i64 0, .int .i64 0, .int .i64 0, .bool false, .string ⟨#[]⟩, .string ⟨#[]⟩]) 72 rfl Tryz.underlying55 info_dm rfl (by decide) (by omega) vA [] (l.map Msg.doc) A n c okr (fun _ => False) rfl rfl hR1 (by rw [hCl.1]; exact hCl.2.2) (fun _ _ h => h) (fun _ h => h.elim) hR2 (Below.refl _ _) (Nat.zero_le _) (by have := HNL.out; simp; omega) ?_
                intro vB wB hRB _ hgB _
                have HB := Lib.hid (hR3 vB wB _ hRB ⟨hgB.os, hgB.tape, hgB.output, hgB.size, hgB.block⟩)
                clear hRB hgB hR1 hR2 hR3 hCl okr
                refine hK.out _ _ (⟨(blk11 HB.out.blk3).2.2.2.2.2.2.2.2.2.1, (blk11 HB.out.blk3).2.2.2.2.2.2.2.2.1, (blk11 HB.out.blk3).2.2.2.2.2.2.2.1⟩) (fun hHeld => ?_)
                clear hK K
                refine norm_ (a' := ?_) ?_ ?_
                rotate_left
                · show Act.put _ (some 117) _ = _
                  simp only [Act.put, List.setIfInBounds_toArray, List.set_cons_zero, List.set_cons_succ, i64_w, i32_w]
                  rfl
                clear hHeld
                refine norm_ ?_ (hJ (vA, (vB, vC)) _ HB.out)
                simp only [putAll, Act.put, List.setIfInBounds_toArray, List.set_cons_zero, List.set_cons_succ, i64_w, i32_w]
                try rfl
              rintro ⟨vA, vB, vC⟩ wJ hF
              dsimp only at hF
              refine norm_ (a' := ?_) ?_ ?_
              rotate_left
              · simp only [putAll, Act.put, List.setIfInBounds_toArray, List.set_cons_zero, List.set_cons_succ, i64_w, i32_w]
                rfl
              obtain ⟨A8, c8, rfl⟩ := Kd.R_slice hF.swap.head
              have HF := Lib.hid hF
              clear hF
              refine one_ (i := 13) (N := (some 127)) #[true, true, true, true, true, true, true, true, true, true, true, true, true, true, false, false] rfl rfl (by kernel_rfl) (by decide) (fun K hK => ?_)
              obtain ⟨okr, hR1, hR2, hR3⟩ := HF.out.appended
              have hCx := Kd.R_reads' HF.out.tail.head
              refine Kd.R_append_rows_step KDm (w0 := wJ) 0 (by rfl) (.tmp 117) (.tmp 126) 55 111 (.agg #[.int .i64 0, .int .i64 0, .int .i64 0, .int .i64 0, .bool false, .string ⟨#[]⟩, .string ⟨#[]⟩]) 72 rfl Tryz.underlying55 info_dm rfl (by decide) (by omega) vB (l.map Msg.doc) [(next, (now, (0, (now + D, (false, (body, group))))))] A8 1 c8 okr (fun _ => False) rfl rfl hR1 hCx.2.2 (fun _ _ h => h) (fun _ h => h.elim) hR2 (Below.refl _ _) (Nat.zero_le _) (by have := HLL.out; simp; omega) ?_
              intro v9 w9 hR9 _ hg9 _
              rw [← HYS.out] at hR9
              have hP9 := hR3 v9 w9 _ hR9 ⟨hg9.os, hg9.tape, hg9.output, hg9.size, hg9.block⟩
              obtain ⟨A9, c9, hv9⟩ := Kd.R_slice hR9
              rw [← HN9.out] at hv9
              subst hv9
              have HP9 := Lib.hid hP9.drop1
              clear hP9 hR9 hg9 hR1 hR2 hR3 hCx okr
              refine hK.out _ _ (⟨(blk11 HP9.out.blk2).2.2.2.2.2.2.2.2.2.1, (blk11 HP9.out.blk2).2.2.2.2.2.2.2.2.1, (blk11 HP9.out.blk2).2.2.2.2.2.2.2.1⟩) (fun hHeld => ?_)
              clear hK K
              refine norm_ (a' := ?_) ?_ ?_
              rotate_left
              · show Act.put _ (some 127) _ = _
                simp only [Act.put, List.setIfInBounds_toArray, List.set_cons_zero, List.set_cons_succ, i64_w, i32_w]
                rfl
              have HP10 := Lib.hid (show Hp w0 (w9.setCell ⟨w.heap.size, 9, none⟩ (.slice A9 n9 c9)) (ABlk w.heap.size (.cells #[.int .i64 a.vis, .int .i64 a.ret, .int .i64 a.del, .int .i64 a.win, .int .i64 a.max, .string a.dead, .bool a.fifo, .int .i64 now, .int .i64 next, .slice A9 n9 c9, .slice A2 j c2'] 58) :: ARow KDm 111 (.slice A9 n9 c9) (ys.map Msg.doc) :: ABlk (w.heap.size + 1) (.cells #[.int .i64 0, .int .i64 0, .int .i64 0, .int .i64 0, .int .i64 0, .string ⟨#[]⟩, .bool false, .int .i64 0, .int .i64 0, .slice none 0 0, .slice none 0 0] 58) :: ADm (.slice A n c) l :: AKy (.slice A2 j c2') k :: Ps) from HP9.out.up2.setBlk 9 (.slice A9 n9 c9))
              have hf9 := (blk11 HP9.out.blk2).2.2.2.2.2.2.2.2.2.2.2 9
              have hp9 := (blk11 HP9.out.blk2).2.2.2.2.2.2.2.2.2.1
              clear hHeld
              refine pure_ (i := 14) (N := (some 128)) (v := ?_) (a' := ?_) #[true, true, true, true, true, true, true, true, true, true, true, true, true, true, true, false] rfl rfl (by kernel_rfl) (fun _ _ _ h => h) (Or.inl ⟨by rfl, ?_⟩) ?_ ?_
              rotate_left
              · intro w'
                go_simp
                with_reducible rfl
              rotate_left
              · simp only [Act.put, List.setIfInBounds_toArray, List.set_cons_zero, List.set_cons_succ, i64_w, i32_w]
                rfl
              refine last_ (i := 15) (N := none) #[true, true, true, true, true, true, true, true, true, true, true, true, true, true, true, true] rfl rfl (by kernel_rfl) (by decide) (fun K hK => ?_)
              refine skip_ (w1 := ?_) (by rfl) rfl ?_ ?_
              rotate_left
              · go_simp
                rfl
              refine hK.out _ _ ?_
              clear hK K
              refine done_ (by kernel_rfl) ?_

              clear hf9 hp9
              generalize w9.setCell ⟨w.heap.size, 9, none⟩ (.slice A9 n9 c9) = W15 at *
              obtain ⟨c0, c1, c2, c3, c4, c5, c6, c7, c8, c9', c10, cf⟩ := blk11 HP10.out.blk0
              have cf8 := cf 8
              clear cf
              have hie := HIK.out
              obtain ⟨_, hkc⟩ := HFC.out
              rcases hkc with h5 | ⟨h5, h6⟩ | ⟨h5, h6, h7⟩
              case' inl =>
                have HE : Hid (qSend ⟨a, now, next, l, k⟩ body group key delay = (⟨a, now, next + 1, ys, k⟩, (next, 0))) := Lib.hid (by rw [HE.out, show qKnows a key = false from decide_eq_false (by omega)]; rfl)
                rw [decide_eq_true h5] at hie
                have hk0 := nil_size h5
              case' inr.inl =>
                have HE : Hid (qSend ⟨a, now, next, l, k⟩ body group key delay = (⟨a, now, next + 1, ys, k⟩, (next, 0))) := Lib.hid (by rw [HE.out, show qKnows a key = false from decide_eq_false (by omega)]; rfl)
                rw [decide_eq_false h5] at hie
              case inr.inr =>
                have HE : Hid (qSend ⟨a, now, next, l, k⟩ body group key delay = (⟨a, now, next + 1, ys, k ++ [(key, (next, now + a.win))]⟩, (next, 0))) := Lib.hid (by rw [HE.out, show qKnows a key = true from decide_eq_true (by omega)]; rfl)
                rw [decide_eq_false h5] at hie
                have HKL := Lib.hid (show j < 4096 ∧ j = k.length by have := HKN.out; omega)
                clear h5
                go_wp2_with fail
                have HQe := Lib.hid ((HP10.out.up3.tail).below (Below.refl _ _).drew)
                clear c0 c1 c2 c3 c4 c5 c6 c7 c8 c9' c10 cf8
                refine start_ (n := 18) (S := fun w' => w'.cell? ⟨w.heap.size, 10, none⟩ = some (.slice A2 j c2') ∧ w'.cell? ⟨w.heap.size, 8, none⟩ = some (.int .i64 next) ∧ w'.cell? ⟨w.heap.size, 7, none⟩ = some (.int .i64 now) ∧ w'.cell? ⟨w.heap.size, 3, none⟩ = some (.int .i64 a.win)) (ds := [17]) #[false, false, false, false, false, false, false, false, false, false, false, false, false, false, false, false, false, false] (by kernel_rfl) rfl rfl (⟨(blk11 HQe.out.blk0).2.2.2.2.2.2.2.2.2.2.1, (blk11 HQe.out.blk0).2.2.2.2.2.2.2.2.1, (blk11 HQe.out.blk0).2.2.2.2.2.2.2.1, (blk11 HQe.out.blk0).2.2.2.1⟩) (fun hHeld => ?_)
                generalize W15.drew = wd at *
                refine pure_ (i := 1) (N := (some 138)) (v := ?_) (a' := ?_) #[false, true, false, false, false, false, false, false, false, false, false, false, false, false, false, false, false, false] rfl rfl (by kernel_rfl) (fun _ _ _ h => h) (Or.inl ⟨by rfl, ?_⟩) ?_ ?_
                rotate_left
                · intro w'
                  go_simp
                  with_reducible rfl
                rotate_left
                · simp only [Act.put, List.setIfInBounds_toArray, List.set_cons_zero, List.set_cons_succ, i64_w, i32_w]
                  rfl
                refine pure_ (i := 4) (N := (some 141)) (v := ?_) (a' := ?_) #[false, true, false, false, true, false, false, false, false, false, false, false, false, false, false, false, false, false] rfl rfl (by kernel_rfl) (fun _ _ _ h => h) (Or.inl ⟨by rfl, ?_⟩) ?_ ?_
                rotate_left
                · intro w'
                  go_simp
                  with_reducible rfl
                rotate_left
                · simp only [Act.put, List.setIfInBounds_toArray, List.set_cons_zero, List.set_cons_succ, i64_w, i32_w]
                  rfl
                refine pure_ (i := 5) (N := (some 142)) (v := ?_) (a' := ?_) #[false, true, false, false, true, true, false, false, false, false, false, false, false, false, false, false, false, false] rfl rfl (by kernel_rfl) (fun _ _ _ h => h) (Or.inl ⟨by rfl, ?_⟩) ?_ ?_
                rotate_left
                · intro w'
                  go_simp
                  with_reducible rfl
                rotate_left
                · simp only [Act.put, List.setIfInBounds_toArray, List.set_cons_zero, List.set_cons_succ, i64_w, i32_w]
                  rfl
                refine pure_ (i := 7) (N := (some 144)) (v := ?_) (a' := ?_) #[false, true, false, false, true, true, false, true, false, false, false, false, false, false, false, false, false, false] rfl rfl (by kernel_rfl) (fun _ _ _ h => h) (Or.inl ⟨by rfl, ?_⟩) ?_ ?_
                rotate_left
                · intro w'
                  go_simp
                  with_reducible rfl
                rotate_left
                · simp only [Act.put, List.setIfInBounds_toArray, List.set_cons_zero, List.set_cons_succ, i64_w, i32_w]
                  rfl
                refine pure_ (i := 9) (N := (some 146)) (v := ?_) (a' := ?_) #[false, true, false, false, true, true, false, true, false, true, false, false, false, false, false, false, false, false] rfl rfl (by kernel_rfl) (fun _ _ _ h => h) (Or.inl ⟨by rfl, ?_⟩) ?_ ?_
                rotate_left
                · intro w'
                  go_simp
                  with_reducible rfl
                rotate_left
                · simp only [Act.put, List.setIfInBounds_toArray, List.set_cons_zero, List.set_cons_succ, i64_w, i32_w]
                  rfl
                refine pure_ (i := 10) (N := (some 147)) (v := ?_) (a' := ?_) #[false, true, false, false, true, true, false, true, false, true, true, false, false, false, false, false, false, false] rfl rfl (by kernel_rfl) (fun _ _ _ h => h) (Or.inl ⟨by rfl, ?_⟩) ?_ ?_
                rotate_left
                · intro w'
                  go_simp
                  with_reducible rfl
                rotate_left
                · simp only [Act.put, List.setIfInBounds_toArray, List.set_cons_zero, List.set_cons_succ, i64_w, i32_w]
                  rfl
                refine take_ (i := 2) (N := (some 139)) (v := ?_) (a' := ?_) #[false, true, true, false, true, true, false, true, false, true, true, false, false, false, false, false, false, false] rfl rfl (by kernel_rfl) (fun _ _ _ h => h) (Or.inl ⟨by rfl, ?_⟩) hHeld ?_ ?_
                rotate_left
                · rintro w' ⟨s10, s8, s7, s3⟩
                  go_simp
                  with_reducible rfl
                rotate_left
                · simp only [Act.put, List.setIfInBounds_toArray, List.set_cons_zero, List.set_cons_succ, i64_w, i32_w]
                  rfl
                refine take_ (i := 6) (N := (some 143)) (v := ?_) (a' := ?_) #[false, true, true, false, true, true, true, true, false, true, true, false, false, false, false, false, false, false] rfl rfl (by kernel_rfl) (fun _ _ _ h => h) (Or.inl ⟨by rfl, ?_⟩) hHeld ?_ ?_
                rotate_left
                · rintro w' ⟨s10, s8, s7, s3⟩
                  go_simp
                  with_reducible rfl
                rotate_left
                · simp only [Act.put, List.setIfInBounds_toArray, List.set_cons_zero, List.set_cons_succ, i64_w, i32_w]
                  rfl
                refine take_ (i := 8) (N := (some 145)) (v := ?_) (a' := ?_) #[false, true, true, false, true, true, true, true, true, true, true, false, false, false, false, false, false, false] rfl rfl (by kernel_rfl) (fun _ _ _ h => h) (Or.inl ⟨by rfl, ?_⟩) hHeld ?_ ?_
                rotate_left
                · rintro w' ⟨s10, s8, s7, s3⟩
                  go_simp
                  with_reducible rfl
                rotate_left
                · simp only [Act.put, List.setIfInBounds_toArray, List.set_cons_zero, List.set_cons_succ, i64_w, i32_w]
                  rfl
                refine take_ (i := 11) (N := (some 148)) (v := ?_) (a' := ?_) #[false, true, true, false, true, true, true, true, true, true, true, true, false, false, false, false, false, false] rfl rfl (by kernel_rfl) (fun _ _ _ h => h) (Or.inl ⟨by rfl, ?_⟩) hHeld ?_ ?_
                rotate_left
                · rintro w' ⟨s10, s8, s7, s3⟩
                  go_simp
                  with_reducible rfl
                rotate_left
                · simp only [Act.put, List.setIfInBounds_toArray, List.set_cons_zero, List.set_cons_succ, i64_w, i32_w]
                  rfl
                refine pure_ (i := 12) (N := (some 149)) (v := ?_) (a' := ?_) #[false, true, true, false, true, true, true, true, true, true, true, true, true, false, false, false, false, false] rfl rfl (by kernel_rfl) (fun _ _ _ h => h) (Or.inl ⟨by rfl, ?_⟩) ?_ ?_
                rotate_left
                · intro w'
                  go_simp
                  with_reducible rfl
                rotate_left
                · simp only [Act.put, List.setIfInBounds_toArray, List.set_cons_zero, List.set_cons_succ, i64_w, i32_w]
                  rfl
                refine pure_ (i := 13) (N := (some 150)) (v := ?_) (a' := ?_) #[false, true, true, false, true, true, true, true, true, true, true, true, true, true, false, false, false, false] rfl rfl (by kernel_rfl) (fun _ _ _ h => h) (Or.inl ⟨by rfl, ?_⟩) ?_ ?_
                rotate_left
                · intro w'
                  go_simp
                  with_reducible rfl
                rotate_left
                · simp only [Act.put, List.setIfInBounds_toArray, List.set_cons_zero, List.set_cons_succ, i64_w, i32_w]
                  rfl
                clear hHeld
                refine join_ (σ := Value × (Value × Value)) 3 #[true, true, true, true, true, true, true, true, true, true, true, true, true, true, true, false, false, false] (fun s => [(137, s.1), (140, s.2.1), (151, s.2.2)]) (fun s w' => Hp w0 w' (ARow KKy 144 s.2.1 k :: ARow KKy 144 s.2.2 [(key, (next, wrap64 (now + a.win)))] :: ABlk w.heap.size (.cells #[.int .i64 a.vis, .int .i64 a.ret, .int .i64 a.del, .int .i64 a.win, .int .i64 a.max, .string a.dead, .bool a.fifo, .int .i64 now, .int .i64 next, .slice A9 n9 c9, .slice A2 j c2'] 58) :: ARow KDm 111 (.slice A9 n9 c9) (ys.map Msg.doc) :: ABlk (w.heap.size + 1) (.cells #[.int .i64 0, .int .i64 0, .int .i64 0, .int .i64 0, .int .i64 0, .string ⟨#[]⟩, .bool false, .int .i64 0, .int .i64 0, .slice none 0 0, .slice none 0 0] 58) :: AKy (.slice A2 j c2') k :: Ps)) ?_ (fun hJ => ?_)
                rotate_left
                refine two_ (i := 0) (j := 14) (Ni := (some 137)) (Nj := (some 151)) #[true, true, true, false, true, true, true, true, true, true, true, true, true, true, false, false, false, false] #[false, true, true, false, true, true, true, true, true, true, true, true, true, true, true, false, false, false] rfl rfl rfl rfl (by kernel_rfl) (by decide) (by decide) (fun K hK => ?_) (fun K hK => ?_)
                · refine Kd.R_lit_step KKy (w0 := wd) wd.heap.size 144 ?hg (N := 137) ?hd (xs := ([] : List Ky)) (inner := []) (ok := fun _ => True) (okp := fun _ => True) ?hr ?hp (fun _ hk => hk) trivial (Below.refl _ _) (Nat.le_refl _) (by simp) ?_; (case hd => rfl); (case hg => rfl); (case hr => first | (go_simp; done) | (go_simp; rfl)); (case hp => exact (Reps.none _ _))
                  intro vA wA hRA hBA _ _
                  have HA := Lib.hid (HQe.out.row hBA hRA)
                  clear hRA hBA
                  refine hK.out _ _ (⟨(blk11 HA.out.blk1).2.2.2.2.2.2.2.2.2.2.1, (blk11 HA.out.blk1).2.2.2.2.2.2.2.2.1, (blk11 HA.out.blk1).2.2.2.2.2.2.2.1, (blk11 HA.out.blk1).2.2.2.1⟩) (fun hHeld => ?_)
                  clear hK K
                  refine norm_ (a' := ?_) ?_ ?_
                  rotate_left
                  · show Act.put _ (some 137) _ = _
                    simp only [Act.put, List.setIfInBounds_toArray, List.set_cons_zero, List.set_cons_succ, i64_w, i32_w]
                    rfl
                  refine two_ (i := 3) (j := 14) (Ni := (some 140)) (Nj := (some 151)) #[true, true, true, true, true, true, true, true, true, true, true, true, true, true, false, false, false, false] #[true, true, true, false, true, true, true, true, true, true, true, true, true, true, true, false, false, false] rfl rfl rfl rfl (by kernel_rfl) (by decide) (by decide) (fun K hK => ?_) (fun K hK => ?_)
                  · obtain ⟨okr, hR1, hR2, hR3⟩ := (HA.out).appended
                    have hCl := Kd.R_reads' (HA.out.tail.tail.tail.tail.head)
                    refine Kd.R_append_rows_step KKy (w0 := wA) 0 (by rfl) (.tmp 137) (.tmp 139) 56 144 (.agg #[.string ⟨#[]⟩, .int .i64 0, .int .i64 0]) 32 rfl Tryz.underlying56 info_ky rfl (by decide) (by omega) vA [] k A2 j c2' okr (fun _ => False) rfl rfl hR1 (by rw [hCl.1]; exact hCl.2.2) (fun _ _ h => h) (fun _ h => h.elim) hR2 (Below.refl _ _) (Nat.zero_le _) (by have := HKL.out; simp; omega) ?_
                    intro vB wB hRB _ hgB _
                    have HB := Lib.hid (hR3 vB wB _ hRB ⟨hgB.os, hgB.tape, hgB.output, hgB.size, hgB.block⟩)
                    clear hRB hgB hR1 hR2 hR3 hCl okr
                    refine hK.out _ _ (⟨(blk11 HB.out.blk1).2.2.2.2.2.2.2.2.2.2.1, (blk11 HB.out.blk1).2.2.2.2.2.2.2.2.1, (blk11 HB.out.blk1).2.2.2.2.2.2.2.1, (blk11 HB.out.blk1).2.2.2.1⟩) (fun hHeld => ?_)
                    clear hK K
                    refine norm_ (a' := ?_) ?_ ?_
                    rotate_left
                    · show Act.put _ (some 140) _ = _
                      simp only [Act.put, List.setIfInBounds_toArray, List.set_cons_zero, List.set_cons_succ, i64_w, i32_w]
                      rfl
                    refine one_ (i := 14) (N := (some 151)) #[true, true, true, true, true, true, true, true, true, true, true, true, true, true, true, false, false, false] rfl rfl (by kernel_rfl) (by decide) (fun K hK => ?_)
                    refine Kd.R_lit_step KKy (w0 := wB) wB.heap.size 144 ?hg (N := 151) ?hd (xs := [((key, (next, wrap64 (now + a.win))) : Ky)]) (inner := Ky.cells (key, (next, wrap64 (now + a.win)))) (ok := fun _ => True) (okp := fun _ => True) ?hr ?hp (fun _ hk => hk) trivial (Below.refl _ _) (Nat.le_refl _) (by simp) ?_; (case hd => rfl); (case hg => rfl); (case hr => first | (go_simp; done) | (go_simp; rfl)); (case hp => exact (Reps.none _ _).snoc (KKy_of _ _ _ _) rfl)
                    intro vC wC hRC hBC _ _
                    have HC := Lib.hid (HB.out.row hBC hRC)
                    clear hRC hBC
                    refine hK.out _ _ (⟨(blk11 HC.out.blk2).2.2.2.2.2.2.2.2.2.2.1, (blk11 HC.out.blk2).2.2.2.2.2.2.2.2.1, (blk11 HC.out.blk2).2.2.2.2.2.2.2.1, (blk11 HC.out.blk2).2.2.2.1⟩) (fun hHeld => ?_)
                    clear hK K
                    refine norm_ (a' := ?_) ?_ ?_
                    rotate_left
                    · show Act.put _ (some 151) _ = _
                      simp only [Act.put, List.setIfInBounds_toArray, List.set_cons_zero, List.set_cons_succ, i64_w, i32_w]
                      rfl
                    clear hHeld
                    refine norm_ ?_ (hJ (vA, (vB, vC)) _ HC.out.swap)
                    simp only [putAll, Act.put, List.setIfInBounds_toArray, List.set_cons_zero, List.set_cons_succ, i64_w, i32_w]
                    try rfl
                  · refine Kd.R_lit_step KKy (w0 := wA) wA.heap.size 144 ?hg (N := 151) ?hd (xs := [((key, (next, wrap64 (now + a.win))) : Ky)]) (inner := Ky.cells (key, (next, wrap64 (now + a.win)))) (ok := fun _ => True) (okp := fun _ => True) ?hr ?hp (fun _ hk => hk) trivial (Below.refl _ _) (Nat.le_refl _) (by simp) ?_; (case hd => rfl); (case hg => rfl); (case hr => first | (go_simp; done) | (go_simp; rfl)); (case hp => exact (Reps.none _ _).snoc (KKy_of _ _ _ _) rfl)
                    intro vC wC hRC hBC _ _
                    have HC := Lib.hid (HA.out.row hBC hRC)
                    clear hRC hBC
                    refine hK.out _ _ (⟨(blk11 HC.out.blk2).2.2.2.2.2.2.2.2.2.2.1, (blk11 HC.out.blk2).2.2.2.2.2.2.2.2.1, (blk11 HC.out.blk2).2.2.2.2.2.2.2.1, (blk11 HC.out.blk2).2.2.2.1⟩) (fun hHeld => ?_)
                    clear hK K
                    refine norm_ (a' := ?_) ?_ ?_
                    rotate_left
                    · show Act.put _ (some 151) _ = _
                      simp only [Act.put, List.setIfInBounds_toArray, List.set_cons_zero, List.set_cons_succ, i64_w, i32_w]
                      rfl
                    refine one_ (i := 3) (N := (some 140)) #[true, true, true, true, true, true, true, true, true, true, true, true, true, true, true, false, false, false] rfl rfl (by kernel_rfl) (by decide) (fun K hK => ?_)
                    obtain ⟨okr, hR1, hR2, hR3⟩ := (HC.out.swap).appended
                    have hCl := Kd.R_reads' (HC.out.tail.tail.tail.tail.tail.head)
                    refine Kd.R_append_rows_step KKy (w0 := wC) 0 (by rfl) (.tmp 137) (.tmp 139) 56 144 (.agg #[.string ⟨#[]⟩, .int .i64 0, .int .i64 0]) 32 rfl Tryz.underlying56 info_ky rfl (by decide) (by omega) vA [] k A2 j c2' okr (fun _ => False) rfl rfl hR1 (by rw [hCl.1]; exact hCl.2.2) (fun _ _ h => h) (fun _ h => h.elim) hR2 (Below.refl _ _) (Nat.zero_le _) (by have := HKL.out; simp; omega) ?_
                    intro vB wB hRB _ hgB _
                    have HB := Lib.hid (hR3 vB wB _ hRB ⟨hgB.os, hgB.tape, hgB.output, hgB.size, hgB.block⟩)
                    clear hRB hgB hR1 hR2 hR3 hCl okr
                    refine hK.out _ _ (⟨(blk11 HB.out.blk2).2.2.2.2.2.2.2.2.2.2.1, (blk11 HB.out.blk2).2.2.2.2.2.2.2.2.1, (blk11 HB.out.blk2).2.2.2.2.2.2.2.1, (blk11 HB.out.blk2).2.2.2.1⟩) (fun hHeld => ?_)
                    clear hK K
                    refine norm_ (a' := ?_) ?_ ?_
                    rotate_left
                    · show Act.put _ (some 140) _ = _
                      simp only [Act.put, List.setIfInBounds_toArray, List.set_cons_zero, List.set_cons_succ, i64_w, i32_w]
                      rfl
                    clear hHeld
                    refine norm_ ?_ (hJ (vA, (vB, vC)) _ HB.out)
                    simp only [putAll, Act.put, List.setIfInBounds_toArray, List.set_cons_zero, List.set_cons_succ, i64_w, i32_w]
                    try rfl
                · refine Kd.R_lit_step KKy (w0 := wd) wd.heap.size 144 ?hg (N := 151) ?hd (xs := [((key, (next, wrap64 (now + a.win))) : Ky)]) (inner := Ky.cells (key, (next, wrap64 (now + a.win)))) (ok := fun _ => True) (okp := fun _ => True) ?hr ?hp (fun _ hk => hk) trivial (Below.refl _ _) (Nat.le_refl _) (by simp) ?_; (case hd => rfl); (case hg => rfl); (case hr => first | (go_simp; done) | (go_simp; rfl)); (case hp => exact (Reps.none _ _).snoc (KKy_of _ _ _ _) rfl)
                  intro vC wC hRC hBC _ _
                  have HC := Lib.hid (HQe.out.row hBC hRC)
                  clear hRC hBC
                  refine hK.out _ _ (⟨(blk11 HC.out.blk1).2.2.2.2.2.2.2.2.2.2.1, (blk11 HC.out.blk1).2.2.2.2.2.2.2.2.1, (blk11 HC.out.blk1).2.2.2.2.2.2.2.1, (blk11 HC.out.blk1).2.2.2.1⟩) (fun hHeld => ?_)
                  clear hK K
                  refine norm_ (a' := ?_) ?_ ?_
                  rotate_left
                  · show Act.put _ (some 151) _ = _
                    simp only [Act.put, List.setIfInBounds_toArray, List.set_cons_zero, List.set_cons_succ, i64_w, i32_w]
                    rfl
                  refine one_ (i := 0) (N := (some 137)) #[true, true, true, false, true, true, true, true, true, true, true, true, true, true, true, false, false, false] rfl rfl (by kernel_rfl) (by decide) (fun K hK => ?_)
                  refine Kd.R_lit_step KKy (w0 := wC) wC.heap.size 144 ?hg (N := 137) ?hd (xs := ([] : List Ky)) (inner := []) (ok := fun _ => True) (okp := fun _ => True) ?hr ?hp (fun _ hk => hk) trivial (Below.refl _ _) (Nat.le_refl _) (by simp) ?_; (case hd => rfl); (case hg => rfl); (case hr => first | (go_simp; done) | (go_simp; rfl)); (case hp => exact (Reps.none _ _))
                  intro vA wA hRA hBA _ _
                  have HA := Lib.hid (HC.out.row hBA hRA)
                  clear hRA hBA
                  refine hK.out _ _ (⟨(blk11 HA.out.blk2).2.2.2.2.2.2.2.2.2.2.1, (blk11 HA.out.blk2).2.2.2.2.2.2.2.2.1, (blk11 HA.out.blk2).2.2.2.2.2.2.2.1, (blk11 HA.out.blk2).2.2.2.1⟩) (fun hHeld => ?_)
                  clear hK K
                  refine norm_ (a' := ?_) ?_ ?_
                  rotate_left
                  · show Act.put _ (some 137) _ = _
                    simp only [Act.put, List.setIfInBounds_toArray, List.set_cons_zero, List.set_cons_succ, i64_w, i32_w]
                    rfl
                  refine one_ (i := 3) (N := (some 140)) #[true, true, true, true, true, true, true, true, true, true, true, true, true, true, true, false, false, false] rfl rfl (by kernel_rfl) (by decide) (fun K hK => ?_)
                  obtain ⟨okr, hR1, hR2, hR3⟩ := (HA.out).appended
                  have hCl := Kd.R_reads' (HA.out.tail.tail.tail.tail.tail.head)
                  refine Kd.R_append_rows_step KKy (w0 := wA) 0 (by rfl) (.tmp 137) (.tmp 139) 56 144 (.agg #[.string ⟨#[]⟩, .int .i64 0, .int .i64 0]) 32 rfl Tryz.underlying56 info_ky rfl (by decide) (by omega) vA [] k A2 j c2' okr (fun _ => False) rfl rfl hR1 (by rw [hCl.1]; exact hCl.2.2) (fun _ _ h => h) (fun _ h => h.elim) hR2 (Below.refl _ _) (Nat.zero_le _) (by have := HKL.out; simp; omega) ?_
                  intro vB wB hRB _ hgB _
                  have HB := Lib.hid (hR3 vB wB _ hRB ⟨hgB.os, hgB.tape, hgB.output, hgB.size, hgB.block⟩)
                  clear hRB hgB hR1 hR2 hR3 hCl okr
                  refine hK.out _ _ (⟨(blk11 HB.out.blk2).2.2.2.2.2.2.2.2.2.2.1, (blk11 HB.out.blk2).2.2.2.2.2.2.2.2.1, (blk11 HB.out.blk2).2.2.2.2.2.2.2.1, (blk11 HB.out.blk2).2.2.2.1⟩) (fun hHeld => ?_)
                  clear hK K
                  refine norm_ (a' := ?_) ?_ ?_
                  rotate_left
                  · show Act.put _ (some 140) _ = _
                    simp only [Act.put, List.setIfInBounds_toArray, List.set_cons_zero, List.set_cons_succ, i64_w, i32_w]
                    rfl
                  clear hHeld
                  refine norm_ ?_ (hJ (vA, (vB, vC)) _ HB.out)
                  simp only [putAll, Act.put, List.setIfInBounds_toArray, List.set_cons_zero, List.set_cons_succ, i64_w, i32_w]
                  try rfl
                rintro ⟨vA, vB, vC⟩ wJ hF
                dsimp only at hF
                refine norm_ (a' := ?_) ?_ ?_
                rotate_left
                · simp only [putAll, Act.put, List.setIfInBounds_toArray, List.set_cons_zero, List.set_cons_succ, i64_w, i32_w]
                  rfl
                obtain ⟨A8, c8, rfl⟩ := Kd.R_slice hF.swap.head
                have HF := Lib.hid hF
                clear hF
                refine one_ (i := 15) (N := (some 152)) #[true, true, true, true, true, true, true, true, true, true, true, true, true, true, true, true, false, false] rfl rfl (by kernel_rfl) (by decide) (fun K hK => ?_)
                obtain ⟨okr, hR1, hR2, hR3⟩ := HF.out.appended
                have hCx := Kd.R_reads' HF.out.tail.head
                refine Kd.R_append_rows_step KKy (w0 := wJ) 0 (by rfl) (.tmp 140) (.tmp 151) 56 144 (.agg #[.string ⟨#[]⟩, .int .i64 0, .int .i64 0]) 32 rfl Tryz.underlying56 info_ky rfl (by decide) (by omega) vB k [(key, (next, wrap64 (now + a.win)))] A8 1 c8 okr (fun _ => False) rfl rfl hR1 hCx.2.2 (fun _ _ h => h) (fun _ h => h.elim) hR2 (Below.refl _ _) (Nat.zero_le _) (by have := HKL.out; simp; omega) ?_
                intro vk w7 hR7 _ hg7 _
                rw [HWR.out] at hR7
                have hP7 := hR3 vk w7 _ hR7 ⟨hg7.os, hg7.tape, hg7.output, hg7.size, hg7.block⟩
                obtain ⟨B9, d9, hv7⟩ := Kd.R_slice hR7
                rw [← HM9.out] at hv7
                subst hv7
                have HP7 := Lib.hid hP7.drop1
                clear hP7 hR7 hg7 hR1 hR2 hR3 hCx okr
                refine hK.out _ _ (⟨(blk11 HP7.out.blk1).2.2.2.2.2.2.2.2.2.2.1, (blk11 HP7.out.blk1).2.2.2.2.2.2.2.2.1, (blk11 HP7.out.blk1).2.2.2.2.2.2.2.1, (blk11 HP7.out.blk1).2.2.2.1⟩) (fun hHeld => ?_)
                clear hK K
                refine norm_ (a' := ?_) ?_ ?_
                rotate_left
                · show Act.put _ (some 152) _ = _
                  simp only [Act.put, List.setIfInBounds_toArray, List.set_cons_zero, List.set_cons_succ, i64_w, i32_w]
                  rfl
                have HP8 := Lib.hid (show Hp w0 (w7.setCell ⟨w.heap.size, 10, none⟩ (.slice B9 m9 d9)) (ABlk w.heap.size (.cells #[.int .i64 a.vis, .int .i64 a.ret, .int .i64 a.del, .int .i64 a.win, .int .i64 a.max, .string a.dead, .bool a.fifo, .int .i64 now, .int .i64 next, .slice A9 n9 c9, .slice B9 m9 d9] 58) :: ARow KKy 144 (.slice B9 m9 d9) (k ++ [(key, (next, now + a.win))]) :: ARow KDm 111 (.slice A9 n9 c9) (ys.map Msg.doc) :: ABlk (w.heap.size + 1) (.cells #[.int .i64 0, .int .i64 0, .int .i64 0, .int .i64 0, .int .i64 0, .string ⟨#[]⟩, .bool false, .int .i64 0, .int .i64 0, .slice none 0 0, .slice none 0 0] 58) :: AKy (.slice A2 j c2') k :: Ps) from HP7.out.swap.setBlk 10 (.slice B9 m9 d9))
                have hf7 := (blk11 HP7.out.blk1).2.2.2.2.2.2.2.2.2.2.2 10
                have hp7 := (blk11 HP7.out.blk1).2.2.2.2.2.2.2.2.2.2.1
                clear hHeld
                refine pure_ (i := 16) (N := (some 153)) (v := ?_) (a' := ?_) #[true, true, true, true, true, true, true, true, true, true, true, true, true, true, true, true, true, false] rfl rfl (by kernel_rfl) (fun _ _ _ h => h) (Or.inl ⟨by rfl, ?_⟩) ?_ ?_
                rotate_left
                · intro w'
                  go_simp
                  with_reducible rfl
                rotate_left
                · simp only [Act.put, List.setIfInBounds_toArray, List.set_cons_zero, List.set_cons_succ, i64_w, i32_w]
                  rfl
                refine last_ (i := 17) (N := none) #[true, true, true, true, true, true, true, true, true, true, true, true, true, true, true, true, true, true] rfl rfl (by kernel_rfl) (by decide) (fun K hK => ?_)
                refine skip_ (w1 := ?_) (by rfl) rfl ?_ ?_
                rotate_left
                · go_simp
                  rfl
                refine hK.out _ _ ?_
                clear hK K
                refine done_ (by kernel_rfl) ?_

                clear hf7 hp7
                generalize w7.setCell ⟨w.heap.size, 10, none⟩ (.slice B9 m9 d9) = W17 at *
                obtain ⟨c0, c1, c2, c3, c4, c5, c6, c7, c8, c9', c10, cf⟩ := blk11 HP8.out.blk0
                have cf8 := cf 8
                clear cf
                have HPN := Lib.hid (show Hp w0 (W17.setCell ⟨w.heap.size, 8, none⟩ (.int .i64 (next + 1))) (ABlk w.heap.size (.cells #[.int .i64 a.vis, .int .i64 a.ret, .int .i64 a.del, .int .i64 a.win, .int .i64 a.max, .string a.dead, .bool a.fifo, .int .i64 now, .int .i64 (next + 1), .slice A9 n9 c9, .slice B9 m9 d9] 58) :: _) from HP8.out.setBlk 8 (.int .i64 (next + 1)))
                go_wp2_with fail
                rw [HS1.out]
                clear c0 c1 c2 c3 c4 c5 c6 c7 c8 c9' c10 cf8
                generalize W17.setCell ⟨w.heap.size, 8, none⟩ (.int .i64 (next + 1)) = W1 at *
                have HPM := Lib.hid ((HPN.out.below (Below.refl _ _).drew).up3)
                refine start_ (n := 7) (S := fun w' => w'.heap[w.heap.size]? = some (.cells #[.int .i64 a.vis, .int .i64 a.ret, .int .i64 a.del, .int .i64 a.win, .int .i64 a.max, .string a.dead, .bool a.fifo, .int .i64 now, .int .i64 (next + 1), .slice A9 n9 c9, .slice B9 m9 d9] 58)) (ds := []) #[false, false, false, false, false, false, false] (by kernel_rfl) rfl rfl (HPM.out.blk1) (fun hHeld => ?_)
                generalize W1.drew = wd at *
                refine pure_ (i := 1) (N := (some 159)) (v := ?_) (a' := ?_) #[false, true, false, false, false, false, false] rfl rfl (by kernel_rfl) (fun _ _ _ h => h) (Or.inl ⟨by rfl, ?_⟩) ?_ ?_
                rotate_left
                · intro w'
                  go_simp
                  with_reducible rfl
                rotate_left
                · simp only [Act.put, List.setIfInBounds_toArray, List.set_cons_zero, List.set_cons_succ, i64_w, i32_w]
                  rfl
                refine take_ (i := 0) (N := (some 158)) (v := ?_) (a' := ?_) #[true, true, false, false, false, false, false] rfl rfl (by kernel_rfl) (fun _ _ _ h => h) (Or.inl ⟨by rfl, ?_⟩) hHeld ?_ ?_
                rotate_left
                · rintro w' sb
                  obtain ⟨f0, f1, f2, f3, f4, f5, f6, f7, f8, f9, f10, _⟩ := blk11 sb
                  go_simp
                  with_reducible rfl
                rotate_left
                · simp only [Act.put, List.setIfInBounds_toArray, List.set_cons_zero, List.set_cons_succ, i64_w, i32_w]
                  rfl
                refine take_ (i := 2) (N := (some 160)) (v := ?_) (a' := ?_) #[true, true, true, false, false, false, false] rfl rfl (by kernel_rfl) (fun _ _ _ h => h) (Or.inl ⟨by rfl, ?_⟩) hHeld ?_ ?_
                rotate_left
                · rintro w' sb
                  obtain ⟨f0, f1, f2, f3, f4, f5, f6, f7, f8, f9, f10, _⟩ := blk11 sb
                  go_simp
                  with_reducible rfl
                rotate_left
                · simp only [Act.put, List.setIfInBounds_toArray, List.set_cons_zero, List.set_cons_succ, i64_w, i32_w]
                  rfl
                refine pure_ (i := 3) (N := (some 161)) (v := ?_) (a' := ?_) #[true, true, true, true, false, false, false] rfl rfl (by kernel_rfl) (fun _ _ _ h => h) (Or.inl ⟨by rfl, ?_⟩) ?_ ?_
                rotate_left
                · intro w'
                  go_simp
                  with_reducible rfl
                rotate_left
                · simp only [Act.put, List.setIfInBounds_toArray, List.set_cons_zero, List.set_cons_succ, i64_w, i32_w]
                  rfl
                have HWW := Lib.hid (HPM.out.set11 (.int .i64 a.vis) (.int .i64 a.ret) (.int .i64 a.del) (.int .i64 a.win) (.int .i64 a.max) (.string a.dead) (.bool a.fifo) (.int .i64 now) (.int .i64 (next + 1)) (.slice A9 n9 c9) (.slice B9 m9 d9))
                obtain ⟨z0, z1, z2, z3, z4, z5, z6, z7, z8, z9, z10, zf⟩ := blk11 HPM.out.blk0
                refine one_ (i := 4) (N := none) #[true, true, true, true, true, false, false] rfl rfl (by kernel_rfl) (by decide) (fun K hK => ?_)
                refine skip_ (w1 := ?_) (by rfl) rfl ?_ ?_
                rotate_left
                · go_simp
                  rfl
                refine hK.out _ _ (HWW.out.blk1) (fun hHeld => ?_)
                clear hK K
                generalize (((((((((((wd.setCell ⟨w.heap.size + 1, 0, none⟩ (.int .i64 a.vis)).setCell ⟨w.heap.size + 1, 1, none⟩ (.int .i64 a.ret)).setCell ⟨w.heap.size + 1, 2, none⟩ (.int .i64 a.del)).setCell ⟨w.heap.size + 1, 3, none⟩ (.int .i64 a.win)).setCell ⟨w.heap.size + 1, 4, none⟩ (.int .i64 a.max)).setCell ⟨w.heap.size + 1, 5, none⟩ (.string a.dead)).setCell ⟨w.heap.size + 1, 6, none⟩ (.bool a.fifo)).setCell ⟨w.heap.size + 1, 7, none⟩ (.int .i64 now)).setCell ⟨w.heap.size + 1, 8, none⟩ (.int .i64 (next + 1))).setCell ⟨w.heap.size + 1, 9, none⟩ (.slice A9 n9 c9)).setCell ⟨w.heap.size + 1, 10, none⟩ (.slice B9 m9 d9)) = W at *
                skip
                refine pure_ (i := 5) (N := (some 11)) (v := ?_) (a' := ?_) #[true, true, true, true, true, true, false] rfl rfl (by kernel_rfl) (fun _ _ _ h => h) (Or.inl ⟨by rfl, ?_⟩) ?_ ?_
                rotate_left
                · intro w'
                  go_simp
                  with_reducible rfl
                rotate_left
                · simp only [Act.put, List.setIfInBounds_toArray, List.set_cons_zero, List.set_cons_succ, i64_w, i32_w]
                  rfl
                refine pure_ (i := 6) (N := (some 12)) (v := ?_) (a' := ?_) #[true, true, true, true, true, true, true] rfl rfl (by kernel_rfl) (fun _ _ _ h => h) (Or.inl ⟨by rfl, ?_⟩) ?_ ?_
                rotate_left
                · intro w'
                  go_simp
                  with_reducible rfl
                rotate_left
                · simp only [Act.put, List.setIfInBounds_toArray, List.set_cons_zero, List.set_cons_succ, i64_w, i32_w]
                  rfl
                refine done_ (by kernel_rfl) ?_
                go_wp2_with fail
                obtain ⟨y0, y1, y2, y3, y4, y5, y6, y7, y8, y9, y10, _⟩ := blk11 HWW.out.blk0
                exact bodyPost_ret (v := .tuple #[.agg #[.int .i64 a.vis, .int .i64 a.ret, .int .i64 a.del, .int .i64 a.win, .int .i64 a.max, .string a.dead, .bool a.fifo, .int .i64 now, .int .i64 (next + 1), .slice A9 n9 c9, .slice B9 m9 d9], .int .i64 next, .int .i64 0]) (by simp [results, Tryz.results52, go_sem, y0, y1, y2, y3, y4, y5, y6, y7, y8, y9, y10, HS3.out]) rfl ⟨A9, n9, c9, B9, m9, d9, by rw [HE.out]; rfl, by rw [HE.out]; exact HWW.out.tail.tail.swap.drop2⟩

              all_goals
                clear h5
                have HPN := Lib.hid (show Hp w0 (W15.setCell ⟨w.heap.size, 8, none⟩ (.int .i64 (next + 1))) (ABlk w.heap.size (.cells #[.int .i64 a.vis, .int .i64 a.ret, .int .i64 a.del, .int .i64 a.win, .int .i64 a.max, .string a.dead, .bool a.fifo, .int .i64 now, .int .i64 (next + 1), .slice A9 n9 c9, .slice A2 j c2'] 58) :: _) from HP10.out.setBlk 8 (.int .i64 (next + 1)))
                go_wp2_with fail
                rw [HS1.out]
                clear c0 c1 c2 c3 c4 c5 c6 c7 c8 c9' c10 cf8
                generalize W15.setCell ⟨w.heap.size, 8, none⟩ (.int .i64 (next + 1)) = W1 at *
                have HPM := Lib.hid ((HPN.out.below (Below.refl _ _).drew).up2)
                refine start_ (n := 7) (S := fun w' => w'.heap[w.heap.size]? = some (.cells #[.int .i64 a.vis, .int .i64 a.ret, .int .i64 a.del, .int .i64 a.win, .int .i64 a.max, .string a.dead, .bool a.fifo, .int .i64 now, .int .i64 (next + 1), .slice A9 n9 c9, .slice A2 j c2'] 58)) (ds := []) #[false, false, false, false, false, false, false] (by kernel_rfl) rfl rfl (HPM.out.blk1) (fun hHeld => ?_)
                generalize W1.drew = wd at *
                refine pure_ (i := 1) (N := (some 159)) (v := ?_) (a' := ?_) #[false, true, false, false, false, false, false] rfl rfl (by kernel_rfl) (fun _ _ _ h => h) (Or.inl ⟨by rfl, ?_⟩) ?_ ?_
                rotate_left
                · intro w'
                  go_simp
                  with_reducible rfl
                rotate_left
                · simp only [Act.put, List.setIfInBounds_toArray, List.set_cons_zero, List.set_cons_succ, i64_w, i32_w]
                  rfl
                refine take_ (i := 0) (N := (some 158)) (v := ?_) (a' := ?_) #[true, true, false, false, false, false, false] rfl rfl (by kernel_rfl) (fun _ _ _ h => h) (Or.inl ⟨by rfl, ?_⟩) hHeld ?_ ?_
                rotate_left
                · rintro w' sb
                  obtain ⟨f0, f1, f2, f3, f4, f5, f6, f7, f8, f9, f10, _⟩ := blk11 sb
                  go_simp
                  with_reducible rfl
                rotate_left
                · simp only [Act.put, List.setIfInBounds_toArray, List.set_cons_zero, List.set_cons_succ, i64_w, i32_w]
                  rfl
                refine take_ (i := 2) (N := (some 160)) (v := ?_) (a' := ?_) #[true, true, true, false, false, false, false] rfl rfl (by kernel_rfl) (fun _ _ _ h => h) (Or.inl ⟨by rfl, ?_⟩) hHeld ?_ ?_
                rotate_left
                · rintro w' sb
                  obtain ⟨f0, f1, f2, f3, f4, f5, f6, f7, f8, f9, f10, _⟩ := blk11 sb
                  go_simp
                  with_reducible rfl
                rotate_left
                · simp only [Act.put, List.setIfInBounds_toArray, List.set_cons_zero, List.set_cons_succ, i64_w, i32_w]
                  rfl
                refine pure_ (i := 3) (N := (some 161)) (v := ?_) (a' := ?_) #[true, true, true, true, false, false, false] rfl rfl (by kernel_rfl) (fun _ _ _ h => h) (Or.inl ⟨by rfl, ?_⟩) ?_ ?_
                rotate_left
                · intro w'
                  go_simp
                  with_reducible rfl
                rotate_left
                · simp only [Act.put, List.setIfInBounds_toArray, List.set_cons_zero, List.set_cons_succ, i64_w, i32_w]
                  rfl
                have HWW := Lib.hid (HPM.out.set11 (.int .i64 a.vis) (.int .i64 a.ret) (.int .i64 a.del) (.int .i64 a.win) (.int .i64 a.max) (.string a.dead) (.bool a.fifo) (.int .i64 now) (.int .i64 (next + 1)) (.slice A9 n9 c9) (.slice A2 j c2'))
                obtain ⟨z0, z1, z2, z3, z4, z5, z6, z7, z8, z9, z10, zf⟩ := blk11 HPM.out.blk0
                refine one_ (i := 4) (N := none) #[true, true, true, true, true, false, false] rfl rfl (by kernel_rfl) (by decide) (fun K hK => ?_)
                refine skip_ (w1 := ?_) (by rfl) rfl ?_ ?_
                rotate_left
                · go_simp
                  rfl
                refine hK.out _ _ (HWW.out.blk1) (fun hHeld => ?_)
                clear hK K
                generalize (((((((((((wd.setCell ⟨w.heap.size + 1, 0, none⟩ (.int .i64 a.vis)).setCell ⟨w.heap.size + 1, 1, none⟩ (.int .i64 a.ret)).setCell ⟨w.heap.size + 1, 2, none⟩ (.int .i64 a.del)).setCell ⟨w.heap.size + 1, 3, none⟩ (.int .i64 a.win)).setCell ⟨w.heap.size + 1, 4, none⟩ (.int .i64 a.max)).setCell ⟨w.heap.size + 1, 5, none⟩ (.string a.dead)).setCell ⟨w.heap.size + 1, 6, none⟩ (.bool a.fifo)).setCell ⟨w.heap.size + 1, 7, none⟩ (.int .i64 now)).setCell ⟨w.heap.size + 1, 8, none⟩ (.int .i64 (next + 1))).setCell ⟨w.heap.size + 1, 9, none⟩ (.slice A9 n9 c9)).setCell ⟨w.heap.size + 1, 10, none⟩ (.slice A2 j c2')) = W at *
                skip
                refine pure_ (i := 5) (N := (some 11)) (v := ?_) (a' := ?_) #[true, true, true, true, true, true, false] rfl rfl (by kernel_rfl) (fun _ _ _ h => h) (Or.inl ⟨by rfl, ?_⟩) ?_ ?_
                rotate_left
                · intro w'
                  go_simp
                  with_reducible rfl
                rotate_left
                · simp only [Act.put, List.setIfInBounds_toArray, List.set_cons_zero, List.set_cons_succ, i64_w, i32_w]
                  rfl
                refine pure_ (i := 6) (N := (some 12)) (v := ?_) (a' := ?_) #[true, true, true, true, true, true, true] rfl rfl (by kernel_rfl) (fun _ _ _ h => h) (Or.inl ⟨by rfl, ?_⟩) ?_ ?_
                rotate_left
                · intro w'
                  go_simp
                  with_reducible rfl
                rotate_left
                · simp only [Act.put, List.setIfInBounds_toArray, List.set_cons_zero, List.set_cons_succ, i64_w, i32_w]
                  rfl
                refine done_ (by kernel_rfl) ?_
                go_wp2_with fail
                obtain ⟨y0, y1, y2, y3, y4, y5, y6, y7, y8, y9, y10, _⟩ := blk11 HWW.out.blk0
                exact bodyPost_ret (v := .tuple #[.agg #[.int .i64 a.vis, .int .i64 a.ret, .int .i64 a.del, .int .i64 a.win, .int .i64 a.max, .string a.dead, .bool a.fifo, .int .i64 now, .int .i64 (next + 1), .slice A9 n9 c9, .slice A2 j c2'], .int .i64 next, .int .i64 0]) (by simp [results, Tryz.results52, go_sem, y0, y1, y2, y3, y4, y5, y6, y7, y8, y9, y10, HS3.out]) rfl ⟨A9, n9, c9, A2, j, c2', by rw [HE.out]; rfl, by rw [HE.out]; exact HWW.out.tail.tail.drop1⟩

end
end Go.Proofs.YtoclcmnphdgfpaaGreatDoor
set_option linter.unusedVariables false
set_option linter.unusedSimpArgs false
namespace Go.Proofs.YtoclcmnphdgfpaaGreatDoor
open Go.RowKit Go.Maps Go.Proofs.YtoclcmnphdgfpaaGreatDoorW.PrintWords
abbrev ADl (v : Value) (l : List Lt) : Asn := ARow KLt 142 v l
theorem info_dl : (Tryz.prog.info? 142).map (fun i => (i.zero, i.size, i.bytes)) = some (some (.agg #[.int .i64 0, .int .i64 0, .string ⟨#[]⟩, .string ⟨#[]⟩]), 4, 48) := by kernel_rfl
section
variable {w0 w : World} {ρ : Qs} {Ps : List Asn}
theorem blk7 {w : World} {g : Nat} {x0 x1 x2 x3 x4 x5 x6 : Value} (h : w.heap[g]? = some (.cells #[x0, x1, x2, x3, x4, x5, x6] 111 (0, 0))) :
    w.cell? ⟨g, 0, none⟩ = some x0 ∧ w.cell? ⟨g, 1, none⟩ = some x1 ∧ w.cell? ⟨g, 2, none⟩ = some x2 ∧ w.cell? ⟨g, 3, none⟩ = some x3 ∧ w.cell? ⟨g, 4, none⟩ = some x4 ∧ w.cell? ⟨g, 5, none⟩ = some x5 ∧ w.cell? ⟨g, 6, none⟩ = some x6 ∧ (∀ i, w.frozen? ⟨g, i, none⟩ = false) :=
  ⟨blk_cell h 0, blk_cell h 1, blk_cell h 2, blk_cell h 3, blk_cell h 4, blk_cell h 5, blk_cell h 6, fun i => blk_frozen h i⟩
theorem doc_cases (m : Msg) (a : QA) (t : Int) :
    (m.over t = true ∧ m.dies a t = true ∧ m.goes a t = false ∧ m.stays a t = false) ∨ (m.dies a t = false ∧ m.sent + a.ret ≤ t ∧ m.goes a t = true ∧ m.stays a t = false) ∨ (m.dies a t = false ∧ ¬ m.sent + a.ret ≤ t ∧ m.goes a t = false ∧ m.stays a t = true) := by
  unfold Msg.goes Msg.stays
  cases hd : m.dies a t
  · by_cases hs : m.sent + a.ret ≤ t
    · exact .inr (.inl ⟨rfl, hs, by simp [hs], by simp [hs]⟩)
    · exact .inr (.inr ⟨rfl, hs, by simp [hs], by simp [hs]⟩)
  · exact .inl ⟨dies_over hd, rfl, rfl, rfl⟩
set_option maxHeartbeats 3200000 in
set_option maxRecDepth 100000 in
theorem Hp.refTckNot {A A2 : Option Addr} {n c n2 c2' : Nat} (h : Hp w0 w (ADm (.slice A n c) ρ.l :: AKy (.slice A2 n2 c2') ρ.k :: Ps)) (t : Int) (hm : qMay ρ t = false) :
    Calls Tryz.prog 77 #[ρ.val (.slice A n c) (.slice A2 n2 c2'), .int .i64 t] w fun e w' => e = .returned (.tuple #[ρ.val (.slice A n c) (.slice A2 n2 c2'), .slice none 0 0, .slice none 0 0]) ∧ Hp w0 w' (ADm (.slice A n c) ρ.l :: AKy (.slice A2 n2 c2') ρ.k :: Ps) := by
  obtain ⟨a, now, next, l, k⟩ := ρ
  have H := Lib.hid h
  unfold qMay at hm
  rw [decide_eq_false_iff_not] at hm
  dsimp only at hm
  have hc : t < now ∨ (¬ t < now ∧ 1099511627776 < t) := by omega
  rw [show Qs.val ⟨a, now, next, l, k⟩ (.slice A n c) (.slice A2 n2 c2') = .agg #[.int .i64 a.vis, .int .i64 a.ret, .int .i64 a.del, .int .i64 a.win, .int .i64 a.max, .string a.dead, .bool a.fifo, .int .i64 now, .int .i64 next, .slice A n c, .slice A2 n2 c2'] from rfl]
  clear h hm
  rcases hc with h1 | ⟨h1, h2⟩
  all_goals
    go_enter Tryz.func77, Tryz.ntmps77
    go_wp2_with fail
    exact bodyPost_ret (v := .tuple #[.agg #[.int .i64 a.vis, .int .i64 a.ret, .int .i64 a.del, .int .i64 a.win, .int .i64 a.max, .string a.dead, .bool a.fifo, .int .i64 now, .int .i64 next, .slice A n c, .slice A2 n2 c2'], .slice none 0 0, .slice none 0 0]) (by simp [results, Tryz.results77, go_sem]) rfl ⟨rfl, H.out.below (below_alloc (below_alloc (Below.refl _ _) _) _)⟩
set_option maxHeartbeats 6400000 in
set_option maxRecDepth 100000 in
theorem Hp.refTckDo {A A2 : Option Addr} {n c n2 c2' T : Nat} (h : Hp w0 w (ADm (.slice A n c) ρ.l :: AKy (.slice A2 n2 c2') ρ.k :: Ps)) (hi : QInv ρ T) (hT6 : T ≤ 1000000) (t : Int) (hm : qMay ρ t = true) :
    Calls Tryz.prog 77 #[ρ.val (.slice A n c) (.slice A2 n2 c2'), .int .i64 t] w fun e w' => ∃ A' n' c' B' m' d' A1 n1 c1 A3 n3 c3, n1 = (qDead ρ t).length ∧ n3 = (qGone ρ t).length ∧ e = .returned (.tuple #[(qTick ρ t).val (.slice A' n' c') (.slice B' m' d'), .slice A1 n1 c1, .slice A3 n3 c3]) ∧ Hp w0 w' (ADm (.slice A' n' c') (qTick ρ t).l :: AKy (.slice B' m' d') (qTick ρ t).k :: ADl (.slice A1 n1 c1) ((qDead ρ t).map Msg.lt) :: AInt (.slice A3 n3 c3) (qGone ρ t) :: Ps) := by
  obtain ⟨a, now, next, l, k⟩ := ρ
  have HI := Lib.hid hi
  have H := Lib.hid h
  have HB := Lib.hid (h.alloc (.cells #[.int .i64 a.vis, .int .i64 a.ret, .int .i64 a.del, .int .i64 a.win, .int .i64 a.max, .string a.dead, .bool a.fifo, .int .i64 now, .int .i64 next, .slice A n c, .slice A2 n2 c2'] 58))
  have HZ := Lib.hid (HB.out.alloc (.cells #[.int .i64 0, .int .i64 0, .int .i64 0, .int .i64 0, .int .i64 0, .string ⟨#[]⟩, .bool false, .int .i64 0, .int .i64 0, .slice none 0 0, .slice none 0 0] 58))
  have hsz1 : (w.alloc (.cells #[.int .i64 a.vis, .int .i64 a.ret, .int .i64 a.del, .int .i64 a.win, .int .i64 a.max, .string a.dead, .bool a.fifo, .int .i64 now, .int .i64 next, .slice A n c, .slice A2 n2 c2'] 58)).heap.size = w.heap.size + 1 := by simp
  rw [hsz1] at HZ
  clear hsz1
  rw [show Qs.val ⟨a, now, next, l, k⟩ (.slice A n c) (.slice A2 n2 c2') = .agg #[.int .i64 a.vis, .int .i64 a.ret, .int .i64 a.del, .int .i64 a.win, .int .i64 a.max, .string a.dead, .bool a.fifo, .int .i64 now, .int .i64 next, .slice A n c, .slice A2 n2 c2'] from rfl]
  have hL1 := Kd.R_reads' h.head
  have hK1 := Kd.R_reads' h.tail.head
  have HNL := Lib.hid (show l.length ≤ 1024 ∧ k.length ≤ 4096 from ⟨hi.len, hi.klen⟩)
  have HLN := Lib.hid (show n = l.length by have := hL1.1; rwa [List.length_map] at this)
  have HKN := Lib.hid (show n2 = k.length from hK1.1)
  have hnow := hi.now
  dsimp only at hnow
  have hrt := hi.right
  unfold qRight at hrt
  rw [decide_eq_true_iff] at hrt
  dsimp only at hrt
  have hret : 1 ≤ a.ret ∧ a.ret ≤ 1048576 := by omega
  have hmm := hm
  unfold qMay at hmm
  rw [decide_eq_true_iff] at hmm
  dsimp only at hmm
  have h1 : ¬ t < now := by omega
  have h2 : ¬ 1099511627776 < t := by omega
  have hn1 : n ≤ 1024 := by have := HLN.out; have := HNL.out; omega
  have hn2 : n2 ≤ 4096 := by have := HKN.out; have := HNL.out; omega
  clear h hi hm hL1 hK1 hrt hmm
  go_enter Tryz.func77, Tryz.ntmps77
  go_upto_region 3 with (fail)
  have HX := Lib.hid (show Hp w0 (((w.alloc (.cells #[.int .i64 a.vis, .int .i64 a.ret, .int .i64 a.del, .int .i64 a.win, .int .i64 a.max, .string a.dead, .bool a.fifo, .int .i64 now, .int .i64 next, .slice A n c, .slice A2 n2 c2'] 58)).alloc (.cells #[.int .i64 0, .int .i64 0, .int .i64 0, .int .i64 0, .int .i64 0, .string ⟨#[]⟩, .bool false, .int .i64 0, .int .i64 0, .slice none 0 0, .slice none 0 0] 58)).setCell ⟨w.heap.size, 7, none⟩ (.int .i64 t)) (ABlk (w.heap.size + 1) (.cells #[.int .i64 0, .int .i64 0, .int .i64 0, .int .i64 0, .int .i64 0, .string ⟨#[]⟩, .bool false, .int .i64 0, .int .i64 0, .slice none 0 0, .slice none 0 0] 58) :: ABlk w.heap.size (.cells #[.int .i64 a.vis, .int .i64 a.ret, .int .i64 a.del, .int .i64 a.win, .int .i64 a.max, .string a.dead, .bool a.fifo, .int .i64 t, .int .i64 next, .slice A n c, .slice A2 n2 c2'] 58) :: ADm (.slice A n c) l :: AKy (.slice A2 n2 c2') k :: Ps) from (HZ.out.swap.setBlk 7 (.int .i64 t)).swap)
  obtain ⟨c0, c1, c2, c3, c4, c5, c6, c7, c8, c9, c10, cf⟩ := blk11 HZ.out.blk1
  have cf7 := cf 7
  clear cf
  generalize (w.alloc (.cells #[.int .i64 a.vis, .int .i64 a.ret, .int .i64 a.del, .int .i64 a.win, .int .i64 a.max, .string a.dead, .bool a.fifo, .int .i64 now, .int .i64 next, .slice A n c, .slice A2 n2 c2'] 58)).alloc (.cells #[.int .i64 0, .int .i64 0, .int .i64 0, .int .i64 0, .int .i64 0, .string ⟨#[]⟩, .bool false, .int .i64 0, .int .i64 0, .slice none 0 0, .slice none 0 0] 58) = W0 at *
  go_wp2_with fail
  clear c0 c1 c2 c3 c4 c5 c6 c7 c8 c9 c10 cf7
  generalize W0.setCell ⟨w.heap.size, 7, none⟩ (.int .i64 t) = W1 at *
  go_loopw [7, 8, 9, 10] (fun u7 u8 u9 i wr => ∃ j : Nat, i = .int .i64 j ∧ j ≤ n ∧ Hp w0 wr (ARow KDm 111 u7 (fm l (fun m => m.stays a t) (fun m => (m.lapse t).doc) j) :: ADl u8 (fm l (fun m => m.dies a t) Msg.lt j) :: AInt u9 (fm l (fun m => m.goes a t) (fun m => m.id) j) :: ABlk (w.heap.size + 1) (.cells #[.int .i64 0, .int .i64 0, .int .i64 0, .int .i64 0, .int .i64 0, .string ⟨#[]⟩, .bool false, .int .i64 0, .int .i64 0, .slice none 0 0, .slice none 0 0] 58) :: ABlk w.heap.size (.cells #[.int .i64 a.vis, .int .i64 a.ret, .int .i64 a.del, .int .i64 a.win, .int .i64 a.max, .string a.dead, .bool a.fifo, .int .i64 t, .int .i64 next, .slice A n c, .slice A2 n2 c2'] 58) :: ADm (.slice A n c) l :: AKy (.slice A2 n2 c2') k :: Ps)) (fun _ _ _ i _ => n - (intOf i).toNat)
  case atStart => exact ⟨0, rfl, Nat.zero_le _, ((HX.out.fresh (Below.refl _ _) (Kd.R_nil _ _ _ _ _)).fresh (Below.refl _ _) (Kd.R_nil _ _ _ _ _)).fresh (Below.refl _ _) (Kd.R_nil _ _ _ _ _)⟩
  case round =>
    obtain ⟨j, rfl, hj, hQ⟩ := hrel
    have HQ := Lib.hid hQ
    clear hQ
    obtain ⟨c0, c1, c2, c3, c4, c5, c6, c7, c8, c9, c10, cf⟩ := blk11 HQ.out.tail.tail.tail.blk1
    by_cases hjn : j < n
    · obtain ⟨ad, m, rfl, hm, e0, e1, e2, e3, e4, e5, e6⟩ := C_nth_dm (n := l.length) (Kd.R_reads' HQ.out.tail.tail.tail.tail.tail.head |> fun h => by have h2 := h.2.2; rwa [List.length_map] at h2) j (by have := HLN.out; omega)
      have i0 : (0 : Int) ≤ (j : Int) := by omega
      have i1 : (j : Int) < (n : Int) := by omega
      have HM := Lib.hid hm
      have hml := mem_at hm
      have hst := HI.out.sent m hml
      have hsum : IntKind.i64.wrap (m.sent + a.ret) = m.sent + a.ret := IntWalk.i64_in _ (by omega)
      have HFD := Lib.hid (show (fm l (fun m => m.dies a t) Msg.lt j).length ≤ 1024 by have := fm_len (l := l) (p := fun m => m.dies a t) (f := Msg.lt) (i := j); omega)
      have HFG := Lib.hid (show (fm l (fun m => m.goes a t) (fun m => m.id) j).length ≤ 1024 by have := fm_len (l := l) (p := fun m => m.goes a t) (f := fun m => m.id) (i := j); omega)
      have HFS := Lib.hid (show (fm l (fun m => m.stays a t) (fun m => (m.lapse t).doc) j).length ≤ 1024 by have := fm_len (l := l) (p := fun m => m.stays a t) (f := fun m => (m.lapse t).doc) (i := j); omega)
      have HDC := Lib.hid (doc_cases m a t)
      obtain ⟨tm, htm⟩ : ∃ tm, tm = m.time := ⟨_, rfl⟩
      rw [← htm] at e3
      have HTM := Lib.hid htm
      have HA0 := Lib.hid (HQ.out.alloc (.cells #[.int .i64 m.id, .int .i64 m.sent, .int .i64 m.count, .int .i64 tm, .bool m.leased, .string m.body, .string m.group] 111))
      obtain ⟨mb, hmb⟩ : ∃ mb, mb = wr.heap.size := ⟨_, rfl⟩
      clear hm hml hst htm cf
      go_upto_region 11 with (fail)
      rw [← hmb] at HA0 ⊢
      generalize wr.alloc (.cells #[.int .i64 m.id, .int .i64 m.sent, .int .i64 m.count, .int .i64 tm, .bool m.leased, .string m.body, .string m.group] 111) = W at *
      clear c0 c1 c2 c3 c4 c5 c6 c7 c8 c9 c10 e0 e1 e2 e3 e4 e5 e6 hmb
      obtain ⟨b0, b1, b2, b3, b4, b5, b6, bf⟩ := blk7 HA0.out.blk0
      have bf3 := bf 3
      have bf4 := bf 4
      clear bf
      obtain ⟨c0, c1, c2, c3, c4, c5, c6, c7, c8, c9, c10, cf⟩ := blk11 HA0.out.tail.tail.tail.tail.blk1
      clear cf
      go_cut [44] (fun b wx => b = .bool (m.over t) ∧ wx = W)
      case first =>
        cases hl : m.leased
        case' false => have HO := Lib.hid (show m.over t = false by unfold Msg.over; rw [hl]; rfl)
        case' true =>
          have ht2 : tm = m.till := by rw [HTM.out]; unfold Msg.time; rw [hl]; rfl
          by_cases h3 : tm ≤ t
          case' pos => have HO := Lib.hid (show m.over t = true by unfold Msg.over; rw [hl, ← ht2, decide_eq_true h3]; rfl)
          case' neg => have HO := Lib.hid (show m.over t = false by unfold Msg.over; rw [hl, ← ht2, decide_eq_false h3]; rfl)
        all_goals
          rw [hl] at b4
          try clear ht2
          have HL := Lib.hid hl
          clear hl
          go_wp2_with fail
          go_meet
          case rel => exact ⟨by rw [HO.out], rfl⟩
      case rest =>
        obtain ⟨rfl, rfl⟩ := hcut
        rcases HDC.out with ⟨d1, d2, d3, d4⟩ | ⟨d2, d1, d3, d4⟩ | ⟨d2, d1, d3, d4⟩
        case inl =>
          have HYD := Lib.hid d2
          have HNG := Lib.hid d3
          have HNS := Lib.hid d4
          have hmx : 0 < a.max ∧ a.max ≤ m.count := by
            have h5 := d2
            unfold Msg.dies at h5
            rw [Bool.and_eq_true, decide_eq_true_iff] at h5
            exact h5.2
          obtain ⟨hm1, hm2⟩ := hmx
          rw [d1]
          clear d1 d2 d3 d4 HDC hsum bf3 bf4
          have HA := HA0
          obtain ⟨okr, hR1, hR2, hR3⟩ := (HA.out.up2).appended
          have HR1 := Lib.hid hR1
          have HR2 := Lib.hid hR2
          have HR3 := Lib.hid hR3
          clear hR1 hR2 hR3
          go_wp2_with (at_builtin; refine Kd.R_append KLt (w0 := wc) 0 rfl (.tmp 57) (.tmp 67) 139 142 (.agg #[.int .i64 0, .int .i64 0, .string ⟨#[]⟩, .string ⟨#[]⟩]) 48 rfl Tryz.underlying139 info_dl rfl (by decide) (by omega) u8 (fm l (fun m => m.dies a t) Msg.lt j) m.lt [.int .i64 m.id, .int .i64 m.count, .string m.body, .string m.group] okr (fun _ => False) rfl rfl (KLt_of _ _ _ m.lt) (fun _ hk => hk.elim) HR2.out HR1.out (Below.refl _ _) (Nat.zero_le _) (by have := HFD.out; omega) ?_; intro v5 w5 hR5 hB5 hg5 _; have HP5 := Lib.hid (HR3.out _ _ _ hR5 hg5); clear hR5 hB5 hg5)
          refine ⟨⟨j + 1, by simp, by omega, ?_⟩, ?_⟩
          · rw [fm_no (p := (fun m => m.stays a t)) (f := (fun m => (m.lapse t).doc)) HM.out HNS.out, fm_yes (p := (fun m => m.dies a t)) (f := Msg.lt) HM.out HYD.out, fm_no (p := (fun m => m.goes a t)) (f := (fun m => m.id)) HM.out HNG.out]
            exact (HP5.out.drop1).swap
          · simp [intOf]
            omega

        case' inr.inl =>
          have HND := Lib.hid d2
          have HYG := Lib.hid d3
          have HNS := Lib.hid d4
        case' inr.inr =>
          have HND := Lib.hid d2
          have HNG := Lib.hid d3
          have HYS := Lib.hid d4
        all_goals
          clear d2 d3 d4 HDC
          cases ho : m.over t
          case' false =>
            have HMD := Lib.hid (show (m.lapse t).doc = (m.id, (m.sent, (m.count, (tm, (m.leased, (m.body, m.group)))))) by
              have h5 : m.lapse t = m := by
                unfold Msg.lapse
                have h6 := ho
                unfold Msg.over at h6
                rw [h6]
                rfl
              rw [h5, HTM.out]
              rfl)
            have HA := HA0
            clear ho bf3 bf4
            go_upto_region 16 with (fail)
            generalize wc = W2 at *
          case' true =>
            have hmx : ¬ (0 < a.max ∧ a.max ≤ m.count) := by
              have h5 := HND.out
              unfold Msg.dies at h5
              rw [ho, Bool.true_and, decide_eq_false_iff_not] at h5
              exact h5
            have HMX := Lib.hid (show ¬ 0 < a.max ∨ (0 < a.max ∧ ¬ a.max ≤ m.count) by omega)
            have HMD := Lib.hid (show (m.lapse t).doc = (m.id, (m.sent, (m.count, (t, (false, (m.body, m.group)))))) by
              have h6 := ho
              unfold Msg.over at h6
              unfold Msg.lapse
              rw [h6]
              rfl)
            have HA := Lib.hid (show Hp w0 ((wc.setCell ⟨mb, 4, none⟩ (.bool false)).setCell ⟨mb, 3, none⟩ (.int .i64 t)) (ABlk mb (.cells #[.int .i64 m.id, .int .i64 m.sent, .int .i64 m.count, .int .i64 t, .bool false, .string m.body, .string m.group] 111) :: _) from (HA0.out.setBlk 4 (.bool false)).setBlk 3 (.int .i64 t))
            have g3 := (blk7 (HA0.out.setBlk 4 (.bool false)).blk0).2.2.2.1
            have gf3 := (blk7 (HA0.out.setBlk 4 (.bool false)).blk0).2.2.2.2.2.2.2 3
            clear ho hmx
            go_upto_region 12 with (fail)
            go_cut [56] (fun b wx => b = .bool false ∧ wx = wc)
            case first =>
              rcases HMX.out with h5 | ⟨h5, h6⟩
              all_goals
                go_wp2_with fail
                go_meet
                case rel => exact ⟨rfl, rfl⟩
            obtain ⟨rfl, rfl⟩ := hcut
            go_upto_region 16 with (fail)
            clear g3 gf3 bf3 bf4
            generalize (wc.setCell ⟨mb, 4, none⟩ (.bool false)).setCell ⟨mb, 3, none⟩ (.int .i64 t) = W2 at *
          all_goals
            clear HA0 b0 b1 b2 b3 b4 b5 b6 c0 c1 c2 c3 c4 c5 c6 c7 c8 c9 c10
            obtain ⟨b0, b1, b2, b3, b4, b5, b6, bf⟩ := blk7 HA.out.blk0
            obtain ⟨c0, c1, c2, c3, c4, c5, c6, c7, c8, c9, c10, cf⟩ := blk11 HA.out.tail.tail.tail.tail.blk1
            clear cf bf
        case inr.inl.false =>
          obtain ⟨okr, hR1, hR2, hR3⟩ := (HA.out.up3).appended
          have HR1 := Lib.hid hR1
          have HR2 := Lib.hid hR2
          have HR3 := Lib.hid hR3
          clear hR1 hR2 hR3
          go_wp2_with (at_builtin; refine Kd.R_append (Kd.int .i64) (w0 := W2) 0 rfl (.tmp 80) (.tmp 83) 31 3 (.int .i64 0) 8 rfl Tryz.underlying31 info_int rfl (by decide) (by omega) u9 (fm l (fun m => m.goes a t) (fun m => m.id) j) m.id [.int .i64 m.id] okr (fun _ => False) rfl rfl rfl (fun _ hk => hk.elim) HR2.out HR1.out (Below.refl _ _) (Nat.zero_le _) (by have := HFG.out; omega) ?_; intro v5 w5 hR5 hB5 hg5 _; have HP5 := Lib.hid (HR3.out _ _ _ hR5 hg5); clear hR5 hB5 hg5)
          refine ⟨⟨j + 1, by simp, by omega, ?_⟩, ?_⟩
          · rw [fm_no (p := (fun m => m.stays a t)) (f := (fun m => (m.lapse t).doc)) HM.out HNS.out, fm_no (p := (fun m => m.dies a t)) (f := Msg.lt) HM.out HND.out, fm_yes (p := (fun m => m.goes a t)) (f := (fun m => m.id)) HM.out HYG.out]
            exact (HP5.out.drop1).down2
          · simp [intOf]
            omega

        case inr.inl.true =>
          obtain ⟨okr, hR1, hR2, hR3⟩ := (HA.out.up3).appended
          have HR1 := Lib.hid hR1
          have HR2 := Lib.hid hR2
          have HR3 := Lib.hid hR3
          clear hR1 hR2 hR3
          go_wp2_with (at_builtin; refine Kd.R_append (Kd.int .i64) (w0 := W2) 0 rfl (.tmp 80) (.tmp 83) 31 3 (.int .i64 0) 8 rfl Tryz.underlying31 info_int rfl (by decide) (by omega) u9 (fm l (fun m => m.goes a t) (fun m => m.id) j) m.id [.int .i64 m.id] okr (fun _ => False) rfl rfl rfl (fun _ hk => hk.elim) HR2.out HR1.out (Below.refl _ _) (Nat.zero_le _) (by have := HFG.out; omega) ?_; intro v5 w5 hR5 hB5 hg5 _; have HP5 := Lib.hid (HR3.out _ _ _ hR5 hg5); clear hR5 hB5 hg5)
          refine ⟨⟨j + 1, by simp, by omega, ?_⟩, ?_⟩
          · rw [fm_no (p := (fun m => m.stays a t)) (f := (fun m => (m.lapse t).doc)) HM.out HNS.out, fm_no (p := (fun m => m.dies a t)) (f := Msg.lt) HM.out HND.out, fm_yes (p := (fun m => m.goes a t)) (f := (fun m => m.id)) HM.out HYG.out]
            exact (HP5.out.drop1).down2
          · simp [intOf]
            omega

        case inr.inr.false =>
          obtain ⟨okr, hR1, hR2, hR3⟩ := (HA.out.swap).appended
          have HR1 := Lib.hid hR1
          have HR2 := Lib.hid hR2
          have HR3 := Lib.hid hR3
          clear hR1 hR2 hR3
          go_wp2_with (at_builtin; refine Kd.R_append KDm (w0 := W2) 0 rfl (.tmp 85) (.tmp 87) 55 111 (.agg #[.int .i64 0, .int .i64 0, .int .i64 0, .int .i64 0, .bool false, .string ⟨#[]⟩, .string ⟨#[]⟩]) 72 rfl Tryz.underlying55 info_dm rfl (by decide) (by omega) u7 (fm l (fun m => m.stays a t) (fun m => (m.lapse t).doc) j) (m.lapse t).doc [.int .i64 m.id, .int .i64 m.sent, .int .i64 m.count, .int .i64 tm, .bool m.leased, .string m.body, .string m.group] okr (fun _ => False) rfl rfl (by rw [HMD.out]; exact KDm_of _ _ _ _) (fun _ hk => hk.elim) HR2.out HR1.out (Below.refl _ _) (Nat.zero_le _) (by have := HFS.out; omega) ?_; intro v5 w5 hR5 hB5 hg5 _; have HP5 := Lib.hid (HR3.out _ _ _ hR5 hg5); clear hR5 hB5 hg5)
          refine ⟨⟨j + 1, by simp, by omega, ?_⟩, ?_⟩
          · rw [fm_yes (p := (fun m => m.stays a t)) (f := (fun m => (m.lapse t).doc)) HM.out HYS.out, fm_no (p := (fun m => m.dies a t)) (f := Msg.lt) HM.out HND.out, fm_no (p := (fun m => m.goes a t)) (f := (fun m => m.id)) HM.out HNG.out]
            exact HP5.out.drop1
          · simp [intOf]
            omega

        case inr.inr.true =>
          obtain ⟨okr, hR1, hR2, hR3⟩ := (HA.out.swap).appended
          have HR1 := Lib.hid hR1
          have HR2 := Lib.hid hR2
          have HR3 := Lib.hid hR3
          clear hR1 hR2 hR3
          go_wp2_with (at_builtin; refine Kd.R_append KDm (w0 := W2) 0 rfl (.tmp 85) (.tmp 87) 55 111 (.agg #[.int .i64 0, .int .i64 0, .int .i64 0, .int .i64 0, .bool false, .string ⟨#[]⟩, .string ⟨#[]⟩]) 72 rfl Tryz.underlying55 info_dm rfl (by decide) (by omega) u7 (fm l (fun m => m.stays a t) (fun m => (m.lapse t).doc) j) (m.lapse t).doc [.int .i64 m.id, .int .i64 m.sent, .int .i64 m.count, .int .i64 t, .bool false, .string m.body, .string m.group] okr (fun _ => False) rfl rfl (by rw [HMD.out]; exact KDm_of _ _ _ _) (fun _ hk => hk.elim) HR2.out HR1.out (Below.refl _ _) (Nat.zero_le _) (by have := HFS.out; omega) ?_; intro v5 w5 hR5 hB5 hg5 _; have HP5 := Lib.hid (HR3.out _ _ _ hR5 hg5); clear hR5 hB5 hg5)
          refine ⟨⟨j + 1, by simp, by omega, ?_⟩, ?_⟩
          · rw [fm_yes (p := (fun m => m.stays a t)) (f := (fun m => (m.lapse t).doc)) HM.out HYS.out, fm_no (p := (fun m => m.dies a t)) (f := Msg.lt) HM.out HND.out, fm_no (p := (fun m => m.goes a t)) (f := (fun m => m.id)) HM.out HNG.out]
            exact HP5.out.drop1
          · simp [intOf]
            omega

    · have hj' : j = n := by omega
      subst hj'
      have hq := HQ.out
      have hle : l.length ≤ j := by rw [HLN.out]; exact Nat.le_refl _
      simp only [fm_all hle] at hq
      obtain ⟨L7, hL7⟩ : ∃ L7, L7 = (l.filter (fun m => m.stays a t)).map (fun m => (m.lapse t).doc) := ⟨_, rfl⟩
      obtain ⟨L8, hL8⟩ : ∃ L8, L8 = (l.filter (fun m => m.dies a t)).map Msg.lt := ⟨_, rfl⟩
      obtain ⟨L9, hL9⟩ : ∃ L9, L9 = (l.filter (fun m => m.goes a t)).map (fun m => m.id) := ⟨_, rfl⟩
      rw [← hL7, ← hL8, ← hL9] at hq
      obtain ⟨A7, d7, rfl⟩ := Kd.R_slice hq.head
      obtain ⟨A8, d8, rfl⟩ := Kd.R_slice hq.tail.head
      obtain ⟨A9, d9, rfl⟩ := Kd.R_slice hq.tail.tail.head
      obtain ⟨n7, hn7⟩ : ∃ n7, n7 = L7.length := ⟨_, rfl⟩
      obtain ⟨n8, hn8⟩ : ∃ n8, n8 = L8.length := ⟨_, rfl⟩
      obtain ⟨n9, hn9⟩ : ∃ n9, n9 = L9.length := ⟨_, rfl⟩
      rw [← hn7, ← hn8, ← hn9] at hq ⊢
      have HL7 := Lib.hid (show L7 = (qTick ⟨a, now, next, l, k⟩ t).l.map Msg.doc by rw [hL7]; unfold qTick; dsimp only; rw [List.map_map]; rfl)
      have HL8 := Lib.hid (show L8 = (qDead ⟨a, now, next, l, k⟩ t).map Msg.lt from hL8)
      have HL9 := Lib.hid (show L9 = qGone ⟨a, now, next, l, k⟩ t from hL9)
      have HN8 := Lib.hid (show n8 = (qDead ⟨a, now, next, l, k⟩ t).length by rw [hn8, HL8.out, List.length_map])
      have HN9 := Lib.hid (show n9 = (qGone ⟨a, now, next, l, k⟩ t).length by rw [hn9, HL9.out])
      have HP3 := Lib.hid (show Hp w0 (wr.setCell ⟨w.heap.size, 9, none⟩ (.slice A7 n7 d7)) (ABlk w.heap.size (.cells #[.int .i64 a.vis, .int .i64 a.ret, .int .i64 a.del, .int .i64 a.win, .int .i64 a.max, .string a.dead, .bool a.fifo, .int .i64 t, .int .i64 next, .slice A7 n7 d7, .slice A2 n2 c2'] 58) :: _) from hq.up4.setBlk 9 (.slice A7 n7 d7))
      have cf9 := cf 9
      clear hq hL7 hL8 hL9 hn7 hn8 hn9 hle cf HQ
      go_wp2_with fail
      clear c0 c1 c2 c3 c4 c5 c6 c7 c8 c9 c10 cf9
      generalize wr.setCell ⟨w.heap.size, 9, none⟩ (.slice A7 n7 d7) = W3 at *
      go_loopw [12, 13] (fun u12 i wr => ∃ q : Nat, i = .int .i64 q ∧ q ≤ n2 ∧ Hp w0 wr (AKy u12 (fm k (fun p => decide (t < p.2.2)) (fun p => p) q) :: ABlk w.heap.size (.cells #[.int .i64 a.vis, .int .i64 a.ret, .int .i64 a.del, .int .i64 a.win, .int .i64 a.max, .string a.dead, .bool a.fifo, .int .i64 t, .int .i64 next, .slice A7 n7 d7, .slice A2 n2 c2'] 58) :: ARow KDm 111 (.slice A7 n7 d7) L7 :: ADl (.slice A8 n8 d8) L8 :: AInt (.slice A9 n9 d9) L9 :: ABlk (w.heap.size + 1) (.cells #[.int .i64 0, .int .i64 0, .int .i64 0, .int .i64 0, .int .i64 0, .string ⟨#[]⟩, .bool false, .int .i64 0, .int .i64 0, .slice none 0 0, .slice none 0 0] 58) :: ADm (.slice A j c) l :: AKy (.slice A2 n2 c2') k :: Ps)) (fun _ i _ => n2 - (intOf i).toNat)
      case atStart => exact ⟨0, rfl, Nat.zero_le _, HP3.out.fresh (Below.refl _ _) (Kd.R_nil _ _ _ _ _)⟩
      case round =>
        obtain ⟨q, rfl, hq, hQ⟩ := hrel
        have HQ := Lib.hid hQ
        clear hQ
        obtain ⟨c0, c1, c2, c3, c4, c5, c6, c7, c8, c9, c10, cf⟩ := blk11 HQ.out.blk1
        by_cases hqn : q < n2
        · obtain ⟨ad, x, rfl, hx, e0, e1, e2⟩ := C_nth_ky (Kd.R_reads' HQ.out.tail.tail.tail.tail.tail.tail.tail.head).2.2 q (by have := HKN.out; omega)
          have i0 : (0 : Int) ≤ (q : Int) := by omega
          have i1 : (q : Int) < (n2 : Int) := by omega
          have HX2 := Lib.hid hx
          have HFK := Lib.hid (show (fm k (fun p => decide (t < p.2.2)) (fun p => p) q).length ≤ 4096 by have := fm_len (l := k) (p := fun p => decide (t < p.2.2)) (f := fun p => p) (i := q); omega)
          clear hx cf
          by_cases ht : t < x.2.2
          · have HYK := Lib.hid (show (fun p : Ky => decide (t < p.2.2)) x = true from decide_eq_true ht)
            obtain ⟨okr, hR1, hR2, hR3⟩ := HQ.out.appended
            have HR1 := Lib.hid hR1
            have HR2 := Lib.hid hR2
            have HR3 := Lib.hid hR3
            clear hR1 hR2 hR3
            go_wp2_with (at_builtin; refine Kd.R_append KKy (w0 := wr) 0 rfl (.tmp 106) (.tmp 112) 56 144 (.agg #[.string ⟨#[]⟩, .int .i64 0, .int .i64 0]) 32 rfl Tryz.underlying56 info_ky rfl (by decide) (by omega) u12 (fm k (fun p => decide (t < p.2.2)) (fun p => p) q) x [.string x.1, .int .i64 x.2.1, .int .i64 x.2.2] okr (fun _ => False) rfl rfl (KKy_of _ _ _ x) (fun _ hk => hk.elim) HR2.out HR1.out (Below.refl _ _) (Nat.zero_le _) (by have := HFK.out; omega) ?_; intro v5 w5 hR5 hB5 hg5 _; have HP5 := Lib.hid (HR3.out _ _ _ hR5 hg5); clear hR5 hB5 hg5)
            refine ⟨⟨q + 1, by simp, by omega, ?_⟩, ?_⟩
            · rw [fm_yes (p := fun p : Ky => decide (t < p.2.2)) (f := fun p => p) HX2.out HYK.out]
              exact HP5.out
            · simp [intOf]
              omega
          · have HNK := Lib.hid (show (fun p : Ky => decide (t < p.2.2)) x = false from decide_eq_false ht)
            go_wp2_with fail
            refine ⟨⟨q + 1, by simp, by omega, ?_⟩, ?_⟩
            · rw [fm_no (p := fun p : Ky => decide (t < p.2.2)) (f := fun p => p) HX2.out HNK.out]
              exact HQ.out
            · simp [intOf]
              omega
        · have hq' : q = n2 := by omega
          subst hq'
          have hz := HQ.out
          rw [fm_all (by rw [HKN.out]; exact Nat.le_refl _), List.map_id'] at hz
          obtain ⟨L2, hL2⟩ : ∃ L2, L2 = k.filter (fun p => decide (t < p.2.2)) := ⟨_, rfl⟩
          rw [← hL2] at hz
          obtain ⟨B2, d2, rfl⟩ := Kd.R_slice hz.head
          obtain ⟨n12, hn12⟩ : ∃ n12, n12 = L2.length := ⟨_, rfl⟩
          rw [← hn12] at hz ⊢
          have HL2 := Lib.hid (show L2 = (qTick ⟨a, now, next, l, k⟩ t).k from hL2)
          have HP5 := Lib.hid (show Hp w0 (wr.setCell ⟨w.heap.size, 10, none⟩ (.slice B2 n12 d2)) (ABlk w.heap.size (.cells #[.int .i64 a.vis, .int .i64 a.ret, .int .i64 a.del, .int .i64 a.win, .int .i64 a.max, .string a.dead, .bool a.fifo, .int .i64 t, .int .i64 next, .slice A7 n7 d7, .slice B2 n12 d2] 58) :: _) from hz.swap.setBlk 10 (.slice B2 n12 d2))
          have cf10 := cf 10
          obtain ⟨t0, t1, t2, t3, t4, t5, t6, t7, t8, t9, t10, _⟩ := blk11 HP5.out.blk0
          obtain ⟨z0, z1, z2, z3, z4, z5, z6, z7, z8, z9, z10, zf⟩ := blk11 HP5.out.tail.tail.tail.tail.tail.blk0
          have HP6 := Lib.hid HP5.out.up5
          clear hz hL2 hn12 cf HQ
          go_wp2_with fail
          have hW := HP6.out.set11 (.int .i64 a.vis) (.int .i64 a.ret) (.int .i64 a.del) (.int .i64 a.win) (.int .i64 a.max) (.string a.dead) (.bool a.fifo) (.int .i64 t) (.int .i64 next) (.slice A7 n7 d7) (.slice B2 n12 d2)
          generalize ((((((((((((wr.setCell ⟨w.heap.size, 10, none⟩ (.slice B2 n12 d2)).setCell ⟨w.heap.size + 1, 0, none⟩ (.int .i64 a.vis)).setCell ⟨w.heap.size + 1, 1, none⟩ (.int .i64 a.ret)).setCell ⟨w.heap.size + 1, 2, none⟩ (.int .i64 a.del)).setCell ⟨w.heap.size + 1, 3, none⟩ (.int .i64 a.win)).setCell ⟨w.heap.size + 1, 4, none⟩ (.int .i64 a.max)).setCell ⟨w.heap.size + 1, 5, none⟩ (.string a.dead)).setCell ⟨w.heap.size + 1, 6, none⟩ (.bool a.fifo)).setCell ⟨w.heap.size + 1, 7, none⟩ (.int .i64 t)).setCell ⟨w.heap.size + 1, 8, none⟩ (.int .i64 next)).setCell ⟨w.heap.size + 1, 9, none⟩ (.slice A7 n7 d7)).setCell ⟨w.heap.size + 1, 10, none⟩ (.slice B2 n12 d2)) = W at *
          obtain ⟨y0, y1, y2, y3, y4, y5, y6, y7, y8, y9, y10, _⟩ := blk11 hW.blk0
          refine bodyPost_ret (v := .tuple #[.agg #[.int .i64 a.vis, .int .i64 a.ret, .int .i64 a.del, .int .i64 a.win, .int .i64 a.max, .string a.dead, .bool a.fifo, .int .i64 t, .int .i64 next, .slice A7 n7 d7, .slice B2 n12 d2], .slice A8 n8 d8, .slice A9 n9 d9]) (by simp [results, Tryz.results77, go_sem, y0, y1, y2, y3, y4, y5, y6, y7, y8, y9, y10]) rfl ⟨A7, n7, d7, B2, n12, d2, A8, n8, d8, A9, n9, d9, HN8.out, HN9.out, rfl, ?_⟩
          have hfin := hW.tail.tail
          rw [HL7.out, HL2.out, HL8.out, HL9.out] at hfin
          exact hfin.swap.up4.tail.up4.tail
/-- A Tick. -/
theorem Hp.refTck {A A2 : Option Addr} {n c n2 c2' T : Nat} (h : Hp w0 w (ADm (.slice A n c) ρ.l :: AKy (.slice A2 n2 c2') ρ.k :: Ps)) (hi : QInv ρ T) (hT6 : T ≤ 1000000) (t : Int) :
    Calls Tryz.prog 77 #[ρ.val (.slice A n c) (.slice A2 n2 c2'), .int .i64 t] w fun e w' => ∃ A' n' c' B' m' d' A1 n1 c1 A3 n3 c3, n1 = (qTck ρ t).2.1.length ∧ n3 = (qTck ρ t).2.2.length ∧ e = .returned (.tuple #[(qTck ρ t).1.val (.slice A' n' c') (.slice B' m' d'), .slice A1 n1 c1, .slice A3 n3 c3]) ∧ Hp w0 w' (ADm (.slice A' n' c') (qTck ρ t).1.l :: AKy (.slice B' m' d') (qTck ρ t).1.k :: ADl (.slice A1 n1 c1) (qTck ρ t).2.1 :: AInt (.slice A3 n3 c3) (qTck ρ t).2.2 :: Ps) := by
  cases hm : qMay ρ t with
  | false =>
    have e2 : qTck ρ t = (ρ, ([], [])) := by unfold qTck; rw [if_neg (by rw [hm]; decide)]
    rw [e2]
    refine Calls.mono (h.refTckNot t hm) ?_
    rintro e w' ⟨rfl, h2⟩
    exact ⟨A, n, c, A2, n2, c2', none, 0, 0, none, 0, 0, rfl, rfl, rfl, ((h2.fresh (Below.refl _ _) (Kd.R_nil _ _ _ _ _)).fresh (Below.refl _ _) (Kd.R_nil _ _ _ _ _)).up3.up3⟩
  | true =>
    have e2 : qTck ρ t = (qTick ρ t, ((qDead ρ t).map Msg.lt, qGone ρ t)) := by unfold qTck; rw [if_pos hm]
    rw [e2]
    refine Calls.mono (h.refTckDo hi hT6 t hm) ?_
    rintro e w' ⟨A', n', c', B', m', d', A1, n1, c1, A3, n3, c3, h1, h2, h3, h4⟩
    exact ⟨A', n', c', B', m', d', A1, n1, c1, A3, n3, c3, by rw [h1, List.length_map], h2, h3, h4⟩
end
end Go.Proofs.YtoclcmnphdgfpaaGreatDoor
