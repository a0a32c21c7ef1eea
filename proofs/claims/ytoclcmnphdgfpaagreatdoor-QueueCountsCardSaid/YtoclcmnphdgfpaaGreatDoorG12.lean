/- Put together: law08.Does: a call of kind 0. · law08.Does: a call of kind 1. · law08.Does: a call of kind 2. · law08.Does: a call of kind 3. · law08.Does: a call of kind 4. · law08.Does: a call of kind 5. · law08.Does: a call of kind 6. · law08.Does: a call of kind x. · law08.Does: whatever call. · law08.Same, of a queue and the document's: they have the same messages. -/
import Derived.Test.YtoclcmnphdgfpaaGreatDoorG11
import Derived.Test.YtoclcmnphdgfpaaGreatDoorG6
import Derived.Test.YtoclcmnphdgfpaaGreatDoorG9
import Derived.Test.YtoclcmnphdgfpaaGreatDoorWLast
set_option linter.unusedVariables false
set_option linter.unusedSimpArgs false
set_option linter.unusedVariables false
set_option linter.unusedSimpArgs false
namespace Go.Proofs.YtoclcmnphdgfpaaGreatDoor
open Go.RowKit Go.Maps Go.Proofs.YtoclcmnphdgfpaaGreatDoorW.PrintWords Go.Proofs.YtoclcmnphdgfpaaGreatDoorW.PrintLast
section
variable {w0 w : World} {σ ρ : Qs} {Ps : List Asn} {qb T T' : Nat}
set_option maxHeartbeats 1600000 in
set_option maxRecDepth 100000 in
theorem Hp.does0 {A A2 : Option Addr} {n c n2 c2' : Nat} (h : Hp w0 w (ADm (.slice A n c) ρ.l :: AKy (.slice A2 n2 c2') ρ.k :: AQu qb σ T :: Ps)) (hi : QInv ρ T') (hrec : RecOk w0 T) (hT6 : T < 1000000) (hT7 : T' ≤ 1000000) (num num2 : Int) (body group key rec : ByteArray) (qa : QA) (hgs : group.size ≤ maxLen) (hks : key.size ≤ maxLen) :
    Calls Tryz.prog 22 #[.pointer (some ⟨qb, 0, none⟩), ρ.val (.slice A n c) (.slice A2 n2 c2'), opVal 0 num num2 body group key rec qa] w fun e w' => ∃ b A' n' c' B' m' d', (σ = ρ → b = true) ∧ e = .returned (.tuple #[(qTck ρ num).1.val (.slice A' n' c') (.slice B' m' d'), .bool b]) ∧ Hp w0 w' (ADm (.slice A' n' c') (qTck ρ num).1.l :: AKy (.slice B' m' d') (qTck ρ num).1.k :: AQu qb ((qTck σ num).1) T :: Ps) := by
  obtain ⟨⟨a1, now1, next1, l1, k1⟩, hs1⟩ : ∃ s1, s1 = (qTck ρ num).1 := ⟨_, rfl⟩
  obtain ⟨σ1, hs2⟩ : ∃ s1, s1 = (qTck σ num).1 := ⟨_, rfl⟩
  have HS1 := Lib.hid hs1
  have HS2 := Lib.hid hs2
  have hrt := fun (w0 w : World) (Ps : List Asn) (h : Hp w0 w (ADm (.slice A n c) ρ.l :: AKy (.slice A2 n2 c2') ρ.k :: AQu qb σ T :: Ps)) => h.ticked hi (Nat.le_of_lt hT6) hT7 num
  rw [← hs1, ← hs2] at hrt
  have HRT := Lib.hid hrt
  clear hs1 hs2 hrt
  obtain ⟨a, now, next, l, k⟩ := ρ
  have HI := Lib.hid hi
  have HB := Lib.hid (h.alloc (.cells #[.int .i64 a.vis, .int .i64 a.ret, .int .i64 a.del, .int .i64 a.win, .int .i64 a.max, .string a.dead, .bool a.fifo, .int .i64 now, .int .i64 next, .slice A n c, .slice A2 n2 c2'] 58))
  have HO := Lib.hid (HB.out.alloc (.cells #[.int .i64 0, .int .i64 num, .int .i64 num2, .string body, .string group, .string key, .string rec, .int .i64 qa.vis, .int .i64 qa.ret, .int .i64 qa.del, .int .i64 qa.win, .int .i64 qa.max, .string qa.dead, .bool qa.fifo] 52))
  have HZ := Lib.hid (HO.out.alloc (.cells #[.int .i64 0, .int .i64 0, .int .i64 0, .int .i64 0, .int .i64 0, .string ⟨#[]⟩, .bool false, .int .i64 0, .int .i64 0, .slice none 0 0, .slice none 0 0] 58))
  have hsz1 : (w.alloc (.cells #[.int .i64 a.vis, .int .i64 a.ret, .int .i64 a.del, .int .i64 a.win, .int .i64 a.max, .string a.dead, .bool a.fifo, .int .i64 now, .int .i64 next, .slice A n c, .slice A2 n2 c2'] 58)).heap.size = w.heap.size + 1 := by simp
  have hsz2 : ((w.alloc (.cells #[.int .i64 a.vis, .int .i64 a.ret, .int .i64 a.del, .int .i64 a.win, .int .i64 a.max, .string a.dead, .bool a.fifo, .int .i64 now, .int .i64 next, .slice A n c, .slice A2 n2 c2'] 58)).alloc (.cells #[.int .i64 0, .int .i64 num, .int .i64 num2, .string body, .string group, .string key, .string rec, .int .i64 qa.vis, .int .i64 qa.ret, .int .i64 qa.del, .int .i64 qa.win, .int .i64 qa.max, .string qa.dead, .bool qa.fifo] 52)).heap.size = w.heap.size + 2 := by simp
  rw [hsz1, hsz2] at HZ
  rw [show Qs.val ⟨a, now, next, l, k⟩ (.slice A n c) (.slice A2 n2 c2') = .agg #[.int .i64 a.vis, .int .i64 a.ret, .int .i64 a.del, .int .i64 a.win, .int .i64 a.max, .string a.dead, .bool a.fifo, .int .i64 now, .int .i64 next, .slice A n c, .slice A2 n2 c2'] from rfl]
  have H0 := Lib.hid (show Qs.val ⟨a, now, next, l, k⟩ (.slice A n c) (.slice A2 n2 c2') = .agg #[.int .i64 a.vis, .int .i64 a.ret, .int .i64 a.del, .int .i64 a.win, .int .i64 a.max, .string a.dead, .bool a.fifo, .int .i64 now, .int .i64 next, .slice A n c, .slice A2 n2 c2'] from rfl)
  unfold opVal
  clear h hi hsz1 hsz2
  obtain ⟨c0, c1, c2, c3, c4, c5, c6, c7, c8, c9, c10, cf⟩ := blk11 HZ.out.blk2
  obtain ⟨o0, o1, o2, o3, o4, o5, o6, o7, o8, o9, o10, o11, o12, o13⟩ := blk14 HZ.out.blk1
  clear cf
  go_enter Tryz.func22, Tryz.ntmps22
  go_wp2_with fail
  rw [← H0.out]
  refine Calls.mono (HRT.out _ _ _ HZ.out.up5.up5.up5) ?_
  rintro e w2 ⟨b, A1, n1, c1', B1, m1, d1, hb, rfl, hP⟩
  rw [show Qs.val ⟨a1, now1, next1, l1, k1⟩ (.slice A1 n1 c1') (.slice B1 m1 d1) = .agg #[.int .i64 a1.vis, .int .i64 a1.ret, .int .i64 a1.del, .int .i64 a1.win, .int .i64 a1.max, .string a1.dead, .bool a1.fifo, .int .i64 now1, .int .i64 next1, .slice A1 n1 c1', .slice B1 m1 d1] from rfl]
  have HHB := Lib.hid hb
  have HP := Lib.hid hP.up3
  clear hb hP
  clear c0 c1 c2 c3 c4 c5 c6 c7 c8 c9 c10 o0 o1 o2 o3 o4 o5 o6 o7 o8 o9 o10 o11 o12 o13
  obtain ⟨z0, z1, z2, z3, z4, z5, z6, z7, z8, z9, z10, zf⟩ := blk11 HP.out.blk0
  go_wp2_with fail
  have hW := HP.out.set11 (.int .i64 a1.vis) (.int .i64 a1.ret) (.int .i64 a1.del) (.int .i64 a1.win) (.int .i64 a1.max) (.string a1.dead) (.bool a1.fifo) (.int .i64 now1) (.int .i64 next1) (.slice A1 n1 c1') (.slice B1 m1 d1)
  generalize (((((((((((w2.setCell ⟨w.heap.size + 2, 0, none⟩ (.int .i64 a1.vis)).setCell ⟨w.heap.size + 2, 1, none⟩ (.int .i64 a1.ret)).setCell ⟨w.heap.size + 2, 2, none⟩ (.int .i64 a1.del)).setCell ⟨w.heap.size + 2, 3, none⟩ (.int .i64 a1.win)).setCell ⟨w.heap.size + 2, 4, none⟩ (.int .i64 a1.max)).setCell ⟨w.heap.size + 2, 5, none⟩ (.string a1.dead)).setCell ⟨w.heap.size + 2, 6, none⟩ (.bool a1.fifo)).setCell ⟨w.heap.size + 2, 7, none⟩ (.int .i64 now1)).setCell ⟨w.heap.size + 2, 8, none⟩ (.int .i64 next1)).setCell ⟨w.heap.size + 2, 9, none⟩ (.slice A1 n1 c1')).setCell ⟨w.heap.size + 2, 10, none⟩ (.slice B1 m1 d1)) = WW at *
  obtain ⟨j0, j1, j2, j3, j4, j5, j6, j7, j8, j9, j10, _⟩ := blk11 hW.blk0
  exact bodyPost_ret (v := .tuple #[.agg #[.int .i64 a1.vis, .int .i64 a1.ret, .int .i64 a1.del, .int .i64 a1.win, .int .i64 a1.max, .string a1.dead, .bool a1.fifo, .int .i64 now1, .int .i64 next1, .slice A1 n1 c1', .slice B1 m1 d1], .bool b]) (by simp [results, Tryz.results22, go_sem, j0, j1, j2, j3, j4, j5, j6, j7, j8, j9, j10]) rfl ⟨b, A1, n1, c1', B1, m1, d1, HHB.out, by rw [← HS1.out]; rfl, by rw [← HS1.out, ← HS2.out]; exact hW.tail.up3.tail.up3.tail⟩
end
end Go.Proofs.YtoclcmnphdgfpaaGreatDoor
set_option linter.unusedVariables false
set_option linter.unusedSimpArgs false
namespace Go.Proofs.YtoclcmnphdgfpaaGreatDoor
open Go.RowKit Go.Maps Go.Proofs.YtoclcmnphdgfpaaGreatDoorW.PrintWords Go.Proofs.YtoclcmnphdgfpaaGreatDoorW.PrintLast
section
variable {w0 w : World} {σ ρ : Qs} {Ps : List Asn} {qb T T' : Nat}
set_option maxHeartbeats 1600000 in
set_option maxRecDepth 100000 in
theorem Hp.does1 {A A2 : Option Addr} {n c n2 c2' : Nat} (h : Hp w0 w (ADm (.slice A n c) ρ.l :: AKy (.slice A2 n2 c2') ρ.k :: AQu qb σ T :: Ps)) (hi : QInv ρ T') (hrec : RecOk w0 T) (hT6 : T < 1000000) (hT7 : T' ≤ 1000000) (num num2 : Int) (body group key rec : ByteArray) (qa : QA) (hgs : group.size ≤ maxLen) (hks : key.size ≤ maxLen) :
    Calls Tryz.prog 22 #[.pointer (some ⟨qb, 0, none⟩), ρ.val (.slice A n c) (.slice A2 n2 c2'), opVal 1 num num2 body group key rec qa] w fun e w' => ∃ b A' n' c' B' m' d', (σ = ρ → b = true) ∧ e = .returned (.tuple #[(qSend ρ body group key num).1.val (.slice A' n' c') (.slice B' m' d'), .bool b]) ∧ Hp w0 w' (ADm (.slice A' n' c') (qSend ρ body group key num).1.l :: AKy (.slice B' m' d') (qSend ρ body group key num).1.k :: AQu qb ((qSend σ body group key num).1) (T + 1) :: Ps) := by
  obtain ⟨⟨a1, now1, next1, l1, k1⟩, hs1⟩ : ∃ s1, s1 = (qSend ρ body group key num).1 := ⟨_, rfl⟩
  obtain ⟨σ1, hs2⟩ : ∃ s1, s1 = (qSend σ body group key num).1 := ⟨_, rfl⟩
  obtain ⟨x1, hx1⟩ : ∃ z, z = (qSend ρ body group key num).2.1 := ⟨_, rfl⟩
  obtain ⟨y1, hy1⟩ : ∃ z, z = (qSend σ body group key num).2.1 := ⟨_, rfl⟩
  obtain ⟨x2, hx2⟩ : ∃ z, z = (qSend ρ body group key num).2.2 := ⟨_, rfl⟩
  obtain ⟨y2, hy2⟩ : ∃ z, z = (qSend σ body group key num).2.2 := ⟨_, rfl⟩
  have HEQ := Lib.hid (show σ = ρ → y1 = x1 ∧ y2 = x2 from fun e => by rw [hx1, hy1, hx2, hy2, e]; exact ⟨rfl, rfl⟩)
  have HS1 := Lib.hid hs1
  have HS2 := Lib.hid hs2
  have hrt := fun (w0 w : World) (Ps : List Asn) (h : Hp w0 w (ADm (.slice A n c) ρ.l :: AKy (.slice A2 n2 c2') ρ.k :: Ps)) => h.refSend hi hT7 body group key num
  rw [← hs1, ← hx1, ← hx2] at hrt
  have HRT := Lib.hid hrt
  have hqt := fun (w0 w : World) (Ps : List Asn) (h : Hp w0 w (AQu qb σ T :: Ps)) => h.quSend hT6 body group key num hgs hks
  rw [← hs2, ← hy1, ← hy2] at hqt
  have HQT := Lib.hid hqt
  clear hs1 hs2 hx1 hy1 hx2 hy2 hrt hqt
  obtain ⟨a, now, next, l, k⟩ := ρ
  have HI := Lib.hid hi
  have HB := Lib.hid (h.alloc (.cells #[.int .i64 a.vis, .int .i64 a.ret, .int .i64 a.del, .int .i64 a.win, .int .i64 a.max, .string a.dead, .bool a.fifo, .int .i64 now, .int .i64 next, .slice A n c, .slice A2 n2 c2'] 58))
  have HO := Lib.hid (HB.out.alloc (.cells #[.int .i64 1, .int .i64 num, .int .i64 num2, .string body, .string group, .string key, .string rec, .int .i64 qa.vis, .int .i64 qa.ret, .int .i64 qa.del, .int .i64 qa.win, .int .i64 qa.max, .string qa.dead, .bool qa.fifo] 52))
  have HZ := Lib.hid (HO.out.alloc (.cells #[.int .i64 0, .int .i64 0, .int .i64 0, .int .i64 0, .int .i64 0, .string ⟨#[]⟩, .bool false, .int .i64 0, .int .i64 0, .slice none 0 0, .slice none 0 0] 58))
  have hsz1 : (w.alloc (.cells #[.int .i64 a.vis, .int .i64 a.ret, .int .i64 a.del, .int .i64 a.win, .int .i64 a.max, .string a.dead, .bool a.fifo, .int .i64 now, .int .i64 next, .slice A n c, .slice A2 n2 c2'] 58)).heap.size = w.heap.size + 1 := by simp
  have hsz2 : ((w.alloc (.cells #[.int .i64 a.vis, .int .i64 a.ret, .int .i64 a.del, .int .i64 a.win, .int .i64 a.max, .string a.dead, .bool a.fifo, .int .i64 now, .int .i64 next, .slice A n c, .slice A2 n2 c2'] 58)).alloc (.cells #[.int .i64 1, .int .i64 num, .int .i64 num2, .string body, .string group, .string key, .string rec, .int .i64 qa.vis, .int .i64 qa.ret, .int .i64 qa.del, .int .i64 qa.win, .int .i64 qa.max, .string qa.dead, .bool qa.fifo] 52)).heap.size = w.heap.size + 2 := by simp
  rw [hsz1, hsz2] at HZ
  rw [show Qs.val ⟨a, now, next, l, k⟩ (.slice A n c) (.slice A2 n2 c2') = .agg #[.int .i64 a.vis, .int .i64 a.ret, .int .i64 a.del, .int .i64 a.win, .int .i64 a.max, .string a.dead, .bool a.fifo, .int .i64 now, .int .i64 next, .slice A n c, .slice A2 n2 c2'] from rfl]
  have H0 := Lib.hid (show Qs.val ⟨a, now, next, l, k⟩ (.slice A n c) (.slice A2 n2 c2') = .agg #[.int .i64 a.vis, .int .i64 a.ret, .int .i64 a.del, .int .i64 a.win, .int .i64 a.max, .string a.dead, .bool a.fifo, .int .i64 now, .int .i64 next, .slice A n c, .slice A2 n2 c2'] from rfl)
  unfold opVal
  clear h hi hsz1 hsz2
  obtain ⟨c0, c1, c2, c3, c4, c5, c6, c7, c8, c9, c10, cf⟩ := blk11 HZ.out.blk2
  obtain ⟨o0, o1, o2, o3, o4, o5, o6, o7, o8, o9, o10, o11, o12, o13⟩ := blk14 HZ.out.blk1
  clear cf
  go_enter Tryz.func22, Tryz.ntmps22
  go_wp2_with fail
  rw [← H0.out]
  refine Calls.mono (HRT.out _ _ _ HZ.out.up4.up4) ?_
  rintro e w2 ⟨A1, n1, c1', B1, m1, d1, rfl, hP⟩
  rw [show Qs.val ⟨a1, now1, next1, l1, k1⟩ (.slice A1 n1 c1') (.slice B1 m1 d1) = .agg #[.int .i64 a1.vis, .int .i64 a1.ret, .int .i64 a1.del, .int .i64 a1.win, .int .i64 a1.max, .string a1.dead, .bool a1.fifo, .int .i64 now1, .int .i64 next1, .slice A1 n1 c1', .slice B1 m1 d1] from rfl]
  have HP := Lib.hid (hP.alloc (.cells #[.int .i64 a1.vis, .int .i64 a1.ret, .int .i64 a1.del, .int .i64 a1.win, .int .i64 a1.max, .string a1.dead, .bool a1.fifo, .int .i64 now1, .int .i64 next1, .slice A1 n1 c1', .slice B1 m1 d1] 58))
  obtain ⟨nb, hnb⟩ : ∃ nb, nb = w2.heap.size := ⟨_, rfl⟩
  clear hP
  clear c0 c1 c2 c3 c4 c5 c6 c7 c8 c9 c10 o0 o1 o2 o3 o4 o5 o6 o7 o8 o9 o10 o11 o12 o13
  obtain ⟨o0, o1, o2, o3, o4, o5, o6, o7, o8, o9, o10, o11, o12, o13⟩ := blk14 HP.out.tail.blk3
  go_wp2_with fail
  refine Calls.mono (HQT.out _ _ _ HP.out.up6) ?_
  rintro e w3 ⟨rfl, hP⟩
  have HP3 := Lib.hid ((hP.up4.up5.tail.up5.tail).up2.swap)
  rw [← hnb] at HP3 ⊢
  clear hnb hP o0 o1 o2 o3 o4 o5 o6 o7 o8 o9 o10 o11 o12 o13
  by_cases e1 : y1 = x1
  case neg =>
    have he : (y1 == x1) = false := by simpa using e1
    have HF := Lib.hid (show σ = ⟨a, now, next, l, k⟩ → false = true from fun e => absurd (HEQ.out e).1 e1)
    clear e1
    obtain ⟨t0, t1, t2, t3, t4, t5, t6, t7, t8, t9, t10, _⟩ := blk11 HP3.out.blk1
    obtain ⟨z0, z1, z2, z3, z4, z5, z6, z7, z8, z9, z10, zf⟩ := blk11 HP3.out.blk0
    go_wp2_with fail
    have hW := HP3.out.set11 (.int .i64 a1.vis) (.int .i64 a1.ret) (.int .i64 a1.del) (.int .i64 a1.win) (.int .i64 a1.max) (.string a1.dead) (.bool a1.fifo) (.int .i64 now1) (.int .i64 next1) (.slice A1 n1 c1') (.slice B1 m1 d1)
    generalize (((((((((((w3.setCell ⟨w.heap.size + 2, 0, none⟩ (.int .i64 a1.vis)).setCell ⟨w.heap.size + 2, 1, none⟩ (.int .i64 a1.ret)).setCell ⟨w.heap.size + 2, 2, none⟩ (.int .i64 a1.del)).setCell ⟨w.heap.size + 2, 3, none⟩ (.int .i64 a1.win)).setCell ⟨w.heap.size + 2, 4, none⟩ (.int .i64 a1.max)).setCell ⟨w.heap.size + 2, 5, none⟩ (.string a1.dead)).setCell ⟨w.heap.size + 2, 6, none⟩ (.bool a1.fifo)).setCell ⟨w.heap.size + 2, 7, none⟩ (.int .i64 now1)).setCell ⟨w.heap.size + 2, 8, none⟩ (.int .i64 next1)).setCell ⟨w.heap.size + 2, 9, none⟩ (.slice A1 n1 c1')).setCell ⟨w.heap.size + 2, 10, none⟩ (.slice B1 m1 d1)) = WW at *
    obtain ⟨j0, j1, j2, j3, j4, j5, j6, j7, j8, j9, j10, _⟩ := blk11 hW.blk0
    exact bodyPost_ret (v := .tuple #[.agg #[.int .i64 a1.vis, .int .i64 a1.ret, .int .i64 a1.del, .int .i64 a1.win, .int .i64 a1.max, .string a1.dead, .bool a1.fifo, .int .i64 now1, .int .i64 next1, .slice A1 n1 c1', .slice B1 m1 d1], .bool false]) (by simp [results, Tryz.results22, go_sem, j0, j1, j2, j3, j4, j5, j6, j7, j8, j9, j10]) rfl ⟨false, A1, n1, c1', B1, m1, d1, HF.out, by rw [← HS1.out]; rfl, by rw [← HS1.out, ← HS2.out]; exact hW.tail.tail.down2⟩
  by_cases e2 : x2 = y2
  case neg =>
    have he : (y1 == x1) = true := by simpa using e1
    have he2 : (x2 == y2) = false := by simpa using e2
    have HF := Lib.hid (show σ = ⟨a, now, next, l, k⟩ → false = true from fun e => absurd (HEQ.out e).2.symm e2)
    clear e1 e2
    obtain ⟨t0, t1, t2, t3, t4, t5, t6, t7, t8, t9, t10, _⟩ := blk11 HP3.out.blk1
    obtain ⟨z0, z1, z2, z3, z4, z5, z6, z7, z8, z9, z10, zf⟩ := blk11 HP3.out.blk0
    go_wp2_with fail
    have hW := HP3.out.set11 (.int .i64 a1.vis) (.int .i64 a1.ret) (.int .i64 a1.del) (.int .i64 a1.win) (.int .i64 a1.max) (.string a1.dead) (.bool a1.fifo) (.int .i64 now1) (.int .i64 next1) (.slice A1 n1 c1') (.slice B1 m1 d1)
    generalize (((((((((((w3.setCell ⟨w.heap.size + 2, 0, none⟩ (.int .i64 a1.vis)).setCell ⟨w.heap.size + 2, 1, none⟩ (.int .i64 a1.ret)).setCell ⟨w.heap.size + 2, 2, none⟩ (.int .i64 a1.del)).setCell ⟨w.heap.size + 2, 3, none⟩ (.int .i64 a1.win)).setCell ⟨w.heap.size + 2, 4, none⟩ (.int .i64 a1.max)).setCell ⟨w.heap.size + 2, 5, none⟩ (.string a1.dead)).setCell ⟨w.heap.size + 2, 6, none⟩ (.bool a1.fifo)).setCell ⟨w.heap.size + 2, 7, none⟩ (.int .i64 now1)).setCell ⟨w.heap.size + 2, 8, none⟩ (.int .i64 next1)).setCell ⟨w.heap.size + 2, 9, none⟩ (.slice A1 n1 c1')).setCell ⟨w.heap.size + 2, 10, none⟩ (.slice B1 m1 d1)) = WW at *
    obtain ⟨j0, j1, j2, j3, j4, j5, j6, j7, j8, j9, j10, _⟩ := blk11 hW.blk0
    exact bodyPost_ret (v := .tuple #[.agg #[.int .i64 a1.vis, .int .i64 a1.ret, .int .i64 a1.del, .int .i64 a1.win, .int .i64 a1.max, .string a1.dead, .bool a1.fifo, .int .i64 now1, .int .i64 next1, .slice A1 n1 c1', .slice B1 m1 d1], .bool false]) (by simp [results, Tryz.results22, go_sem, j0, j1, j2, j3, j4, j5, j6, j7, j8, j9, j10]) rfl ⟨false, A1, n1, c1', B1, m1, d1, HF.out, by rw [← HS1.out]; rfl, by rw [← HS1.out, ← HS2.out]; exact hW.tail.tail.down2⟩
  have he : (y1 == x1) = true := by simpa using e1
  have he2 : (x2 == y2) = true := by simpa using e2
  clear e1 e2
  obtain ⟨t0, t1, t2, t3, t4, t5, t6, t7, t8, t9, t10, _⟩ := blk11 HP3.out.blk1
  obtain ⟨z0, z1, z2, z3, z4, z5, z6, z7, z8, z9, z10, zf⟩ := blk11 HP3.out.blk0
  go_wp2_with fail
  have hW := HP3.out.set11 (.int .i64 a1.vis) (.int .i64 a1.ret) (.int .i64 a1.del) (.int .i64 a1.win) (.int .i64 a1.max) (.string a1.dead) (.bool a1.fifo) (.int .i64 now1) (.int .i64 next1) (.slice A1 n1 c1') (.slice B1 m1 d1)
  generalize (((((((((((w3.setCell ⟨w.heap.size + 2, 0, none⟩ (.int .i64 a1.vis)).setCell ⟨w.heap.size + 2, 1, none⟩ (.int .i64 a1.ret)).setCell ⟨w.heap.size + 2, 2, none⟩ (.int .i64 a1.del)).setCell ⟨w.heap.size + 2, 3, none⟩ (.int .i64 a1.win)).setCell ⟨w.heap.size + 2, 4, none⟩ (.int .i64 a1.max)).setCell ⟨w.heap.size + 2, 5, none⟩ (.string a1.dead)).setCell ⟨w.heap.size + 2, 6, none⟩ (.bool a1.fifo)).setCell ⟨w.heap.size + 2, 7, none⟩ (.int .i64 now1)).setCell ⟨w.heap.size + 2, 8, none⟩ (.int .i64 next1)).setCell ⟨w.heap.size + 2, 9, none⟩ (.slice A1 n1 c1')).setCell ⟨w.heap.size + 2, 10, none⟩ (.slice B1 m1 d1)) = WW at *
  obtain ⟨j0, j1, j2, j3, j4, j5, j6, j7, j8, j9, j10, _⟩ := blk11 hW.blk0
  exact bodyPost_ret (v := .tuple #[.agg #[.int .i64 a1.vis, .int .i64 a1.ret, .int .i64 a1.del, .int .i64 a1.win, .int .i64 a1.max, .string a1.dead, .bool a1.fifo, .int .i64 now1, .int .i64 next1, .slice A1 n1 c1', .slice B1 m1 d1], .bool true]) (by simp [results, Tryz.results22, go_sem, j0, j1, j2, j3, j4, j5, j6, j7, j8, j9, j10]) rfl ⟨true, A1, n1, c1', B1, m1, d1, fun _ => rfl, by rw [← HS1.out]; rfl, by rw [← HS1.out, ← HS2.out]; exact hW.tail.tail.down2⟩
end
end Go.Proofs.YtoclcmnphdgfpaaGreatDoor
set_option linter.unusedVariables false
set_option linter.unusedSimpArgs false
namespace Go.Proofs.YtoclcmnphdgfpaaGreatDoor
open Go.RowKit Go.Maps Go.Proofs.YtoclcmnphdgfpaaGreatDoorW.PrintWords Go.Proofs.YtoclcmnphdgfpaaGreatDoorW.PrintLast
section
variable {w0 w : World} {σ ρ : Qs} {Ps : List Asn} {qb T T' : Nat}
set_option maxHeartbeats 1600000 in
set_option maxRecDepth 100000 in
theorem Hp.does2 {A A2 : Option Addr} {n c n2 c2' : Nat} (h : Hp w0 w (ADm (.slice A n c) ρ.l :: AKy (.slice A2 n2 c2') ρ.k :: AQu qb σ T :: Ps)) (hi : QInv ρ T') (hrec : RecOk w0 T) (hT6 : T < 1000000) (hT7 : T' ≤ 1000000) (num num2 : Int) (body group key rec : ByteArray) (qa : QA) (hgs : group.size ≤ maxLen) (hks : key.size ≤ maxLen) :
    Calls Tryz.prog 22 #[.pointer (some ⟨qb, 0, none⟩), ρ.val (.slice A n c) (.slice A2 n2 c2'), opVal 2 num num2 body group key rec qa] w fun e w' => ∃ b A' n' c' B' m' d', (σ = ρ → b = true) ∧ e = .returned (.tuple #[(qRcv ρ num num2).1.val (.slice A' n' c') (.slice B' m' d'), .bool b]) ∧ Hp w0 w' (ADm (.slice A' n' c') (qRcv ρ num num2).1.l :: AKy (.slice B' m' d') (qRcv ρ num num2).1.k :: AQu qb ((qRcv σ num num2).1) (T + 1) :: Ps) := by
  obtain ⟨⟨a1, now1, next1, l1, k1⟩, hs1⟩ : ∃ s1, s1 = (qRcv ρ num num2).1 := ⟨_, rfl⟩
  obtain ⟨σ1, hs2⟩ : ∃ s1, s1 = (qRcv σ num num2).1 := ⟨_, rfl⟩
  obtain ⟨x1, hx1⟩ : ∃ z, z = (qRcv ρ num num2).2.1 := ⟨_, rfl⟩
  obtain ⟨y1, hy1⟩ : ∃ z, z = (qRcv σ num num2).2.1 := ⟨_, rfl⟩
  obtain ⟨x2, hx2⟩ : ∃ z, z = (qRcv ρ num num2).2.2 := ⟨_, rfl⟩
  obtain ⟨y2, hy2⟩ : ∃ z, z = (qRcv σ num num2).2.2 := ⟨_, rfl⟩
  have HEQ := Lib.hid (show σ = ρ → y1 = x1 ∧ y2 = x2 from fun e => by rw [hx1, hy1, hx2, hy2, e]; exact ⟨rfl, rfl⟩)
  have HS1 := Lib.hid hs1
  have HS2 := Lib.hid hs2
  have hrt := fun (w0 w : World) (Ps : List Asn) (h : Hp w0 w (ADm (.slice A n c) ρ.l :: AKy (.slice A2 n2 c2') ρ.k :: Ps)) => h.refRcv (A2 := A2) (n2 := n2) (c2' := c2') hi hT7 num num2
  rw [← hs1, ← hx1, ← hx2] at hrt
  have HRT := Lib.hid hrt
  have HKK := Lib.hid (show k1 = ρ.k by
    rw [show k1 = (Qs.mk a1 now1 next1 l1 k1).k from rfl, hs1]
    unfold qRcv
    split <;> rfl)
  have hqt := fun (w0 w : World) (Ps : List Asn) (h : Hp w0 w (AQu qb σ T :: Ps)) (hr : RecOk w0 T) => h.quRcv hr num num2
  rw [← hs2, ← hy1, ← hy2] at hqt
  have HQT := Lib.hid hqt
  clear hs1 hs2 hx1 hy1 hx2 hy2 hrt hqt
  obtain ⟨a, now, next, l, k⟩ := ρ
  have HI := Lib.hid hi
  have HB := Lib.hid (h.alloc (.cells #[.int .i64 a.vis, .int .i64 a.ret, .int .i64 a.del, .int .i64 a.win, .int .i64 a.max, .string a.dead, .bool a.fifo, .int .i64 now, .int .i64 next, .slice A n c, .slice A2 n2 c2'] 58))
  have HO := Lib.hid (HB.out.alloc (.cells #[.int .i64 2, .int .i64 num, .int .i64 num2, .string body, .string group, .string key, .string rec, .int .i64 qa.vis, .int .i64 qa.ret, .int .i64 qa.del, .int .i64 qa.win, .int .i64 qa.max, .string qa.dead, .bool qa.fifo] 52))
  have HZ := Lib.hid (HO.out.alloc (.cells #[.int .i64 0, .int .i64 0, .int .i64 0, .int .i64 0, .int .i64 0, .string ⟨#[]⟩, .bool false, .int .i64 0, .int .i64 0, .slice none 0 0, .slice none 0 0] 58))
  have hsz1 : (w.alloc (.cells #[.int .i64 a.vis, .int .i64 a.ret, .int .i64 a.del, .int .i64 a.win, .int .i64 a.max, .string a.dead, .bool a.fifo, .int .i64 now, .int .i64 next, .slice A n c, .slice A2 n2 c2'] 58)).heap.size = w.heap.size + 1 := by simp
  have hsz2 : ((w.alloc (.cells #[.int .i64 a.vis, .int .i64 a.ret, .int .i64 a.del, .int .i64 a.win, .int .i64 a.max, .string a.dead, .bool a.fifo, .int .i64 now, .int .i64 next, .slice A n c, .slice A2 n2 c2'] 58)).alloc (.cells #[.int .i64 2, .int .i64 num, .int .i64 num2, .string body, .string group, .string key, .string rec, .int .i64 qa.vis, .int .i64 qa.ret, .int .i64 qa.del, .int .i64 qa.win, .int .i64 qa.max, .string qa.dead, .bool qa.fifo] 52)).heap.size = w.heap.size + 2 := by simp
  rw [hsz1, hsz2] at HZ
  rw [show Qs.val ⟨a, now, next, l, k⟩ (.slice A n c) (.slice A2 n2 c2') = .agg #[.int .i64 a.vis, .int .i64 a.ret, .int .i64 a.del, .int .i64 a.win, .int .i64 a.max, .string a.dead, .bool a.fifo, .int .i64 now, .int .i64 next, .slice A n c, .slice A2 n2 c2'] from rfl]
  have H0 := Lib.hid (show Qs.val ⟨a, now, next, l, k⟩ (.slice A n c) (.slice A2 n2 c2') = .agg #[.int .i64 a.vis, .int .i64 a.ret, .int .i64 a.del, .int .i64 a.win, .int .i64 a.max, .string a.dead, .bool a.fifo, .int .i64 now, .int .i64 next, .slice A n c, .slice A2 n2 c2'] from rfl)
  unfold opVal
  clear h hi hsz1 hsz2
  obtain ⟨c0, c1, c2, c3, c4, c5, c6, c7, c8, c9, c10, cf⟩ := blk11 HZ.out.blk2
  obtain ⟨o0, o1, o2, o3, o4, o5, o6, o7, o8, o9, o10, o11, o12, o13⟩ := blk14 HZ.out.blk1
  clear cf
  refine callsHid (fun Post hPost => ?_)
  have HPO := Lib.hid hPost
  clear hPost
  go_enter Tryz.func22, Tryz.ntmps22
  go_wp2_with fail
  rw [← H0.out]
  refine Calls.mono (HRT.out _ _ _ HZ.out.up4.up4) ?_
  rintro e w2 ⟨A1, n1, c1', A3, n3, c3', rfl, hP0⟩
  rw [show Qs.val ⟨a1, now1, next1, l1, k1⟩ (.slice A1 n1 c1') (.slice A2 n2 c2') = .agg #[.int .i64 a1.vis, .int .i64 a1.ret, .int .i64 a1.del, .int .i64 a1.win, .int .i64 a1.max, .string a1.dead, .bool a1.fifo, .int .i64 now1, .int .i64 next1, .slice A1 n1 c1', .slice A2 n2 c2'] from rfl]
  have hP : Hp w0 w2 (ADm (.slice A1 n1 c1') l1 :: AKy (.slice A2 n2 c2') k :: ABlk (w.heap.size + 2) (.cells #[.int .i64 0, .int .i64 0, .int .i64 0, .int .i64 0, .int .i64 0, .string ⟨#[]⟩, .bool false, .int .i64 0, .int .i64 0, .slice none 0 0, .slice none 0 0] 58) :: ABlk (w.heap.size + 1) (.cells #[.int .i64 2, .int .i64 num, .int .i64 num2, .string body, .string group, .string key, .string rec, .int .i64 qa.vis, .int .i64 qa.ret, .int .i64 qa.del, .int .i64 qa.win, .int .i64 qa.max, .string qa.dead, .bool qa.fifo] 52) :: ABlk w.heap.size (.cells #[.int .i64 a.vis, .int .i64 a.ret, .int .i64 a.del, .int .i64 a.win, .int .i64 a.max, .string a.dead, .bool a.fifo, .int .i64 now, .int .i64 next, .slice A n c, .slice A2 n2 c2'] 58) :: AQu qb σ T :: ADt (.slice A3 n3 c3') x1 :: Ps) := hP0.perm ((List.perm_middle (l₁ := [_, _, _, _, _])).symm.cons _)
  have HP := Lib.hid (hP.alloc (.cells #[.int .i64 a1.vis, .int .i64 a1.ret, .int .i64 a1.del, .int .i64 a1.win, .int .i64 a1.max, .string a1.dead, .bool a1.fifo, .int .i64 now1, .int .i64 next1, .slice A1 n1 c1', .slice A2 n2 c2'] 58))
  obtain ⟨nb, hnb⟩ : ∃ nb, nb = w2.heap.size := ⟨_, rfl⟩
  clear hP
  clear c0 c1 c2 c3 c4 c5 c6 c7 c8 c9 c10 o0 o1 o2 o3 o4 o5 o6 o7 o8 o9 o10 o11 o12 o13
  obtain ⟨o0, o1, o2, o3, o4, o5, o6, o7, o8, o9, o10, o11, o12, o13⟩ := blk14 HP.out.tail.blk3
  go_wp2_with fail
  refine Calls.mono (HQT.out _ _ _ HP.out.up6 hrec) ?_
  rintro e w3 ⟨A5, n5, c5, hn5, rfl, hP⟩
  have HP3 := Lib.hid (hP.up7.tail.up6.tail.up5.up3.swap)
  rw [← hnb] at HP3 ⊢
  have HN5 := Lib.hid hn5
  clear hnb hn5 hP o0 o1 o2 o3 o4 o5 o6 o7 o8 o9 o10 o11 o12 o13
  go_wp2_with fail
  have HPd := Lib.hid (HP3.out.below (Below.refl _ _).drew)
  refine start_ (n := 11) (S := fun w' => w'.heap[nb]? = some (.cells #[.int .i64 a1.vis, .int .i64 a1.ret, .int .i64 a1.del, .int .i64 a1.win, .int .i64 a1.max, .string a1.dead, .bool a1.fifo, .int .i64 now1, .int .i64 next1, .slice A1 n1 c1', .slice A2 n2 c2'] 58)) (ds := []) #[false, false, false, false, false, false, false, false, false, false, false] (by kernel_rfl) rfl rfl (HPd.out.blk1) (fun hHeld => ?_)
  generalize w3.drew = wd at *
  refine pure_ (i := 1) (N := (some 98)) (v := ?_) (a' := ?_) #[false, true, false, false, false, false, false, false, false, false, false] rfl rfl (by kernel_rfl) (fun _ _ _ h => h) (Or.inl ⟨by rfl, ?_⟩) ?_ ?_
  rotate_left
  · intro w'
    go_simp
    with_reducible rfl
  rotate_left
  · simp only [Act.put, List.setIfInBounds_toArray, List.set_cons_zero, List.set_cons_succ, i64_w, i32_w]
    rfl
  refine pure_ (i := 2) (N := (some 99)) (v := ?_) (a' := ?_) #[false, true, true, false, false, false, false, false, false, false, false] rfl rfl (by kernel_rfl) (fun _ _ _ h => h) (Or.inl ⟨by rfl, ?_⟩) ?_ ?_
  rotate_left
  · intro w'
    go_simp
    with_reducible rfl
  rotate_left
  · simp only [Act.put, List.setIfInBounds_toArray, List.set_cons_zero, List.set_cons_succ, i64_w, i32_w]
    rfl
  refine take_ (i := 0) (N := (some 97)) (v := ?_) (a' := ?_) #[true, true, true, false, false, false, false, false, false, false, false] rfl rfl (by kernel_rfl) (fun _ _ _ h => h) (Or.inl ⟨by rfl, ?_⟩) hHeld ?_ ?_
  rotate_left
  · rintro w' sb
    obtain ⟨f0, f1, f2, f3, f4, f5, f6, f7, f8, f9, f10, _⟩ := blk11 sb
    go_simp
    with_reducible rfl
  rotate_left
  · simp only [Act.put, List.setIfInBounds_toArray, List.set_cons_zero, List.set_cons_succ, i64_w, i32_w]
    rfl
  refine one_ (i := 3) (N := some 100) #[true, true, true, true, false, false, false, false, false, false, false] rfl rfl (by kernel_rfl) (by decide) (fun K hK => ?_)
  refine goes_ Tryz.func54 (by kernel_rfl) rfl #[.slice A5 n5 c5, .slice A3 n3 c3'] (by rfl) rfl rfl (by first | rfl | (go_simp; done) | (simp [Act.eval]; done) | (simp [Act.eval]; rfl)) ?_
  have hC5 := Kd.R_reads' HPd.out.tail.tail.head
  have hC3 := Kd.R_reads' HPd.out.tail.tail.tail.tail.tail.tail.head
  refine Calls.mono (took_any A5 A3 n5 c5 n3 c3' y1 x1 wd (by rw [hC5.1]; exact hC5.2.2) (by rw [hC3.1]; exact hC3.2.2)) ?_
  rintro e w4 ⟨⟨tb, htb, rfl⟩, hB⟩
  have HP4 := Lib.hid (HPd.out.below hB)
  have HTB := Lib.hid htb
  refine ⟨_, rfl, ?_⟩
  refine hK.out _ _ HP4.out.blk1 (fun hHeld => ?_)
  clear hK K
  refine norm_ (a' := ?_) ?_ ?_
  rotate_left
  · show Act.put _ (some 100) _ = _
    simp only [Act.put, List.setIfInBounds_toArray, List.set_cons_zero, List.set_cons_succ, i64_w, i32_w]
    rfl
  clear hB htb hC5 hC3
  refine pure_ (i := 4) (N := (some 101)) (v := ?_) (a' := ?_) #[true, true, true, true, true, false, false, false, false, false, false] rfl rfl (by kernel_rfl) (fun _ _ _ h => h) (Or.inl ⟨by rfl, ?_⟩) ?_ ?_
  rotate_left
  · intro w'
    go_simp
    with_reducible rfl
  rotate_left
  · simp only [Act.put, List.setIfInBounds_toArray, List.set_cons_zero, List.set_cons_succ, i64_w, i32_w]
    rfl
  cases tb
  case false =>
    refine pure_ (i := 5) (N := (some 102)) (v := undef) (a' := ?_) #[true, true, true, true, true, true, false, false, false, false, false] rfl rfl (by kernel_rfl) (fun _ _ _ h => h) (Or.inr ⟨by rfl, rfl⟩) ?_ ?_
    rotate_left
    · simp only [Act.put, List.setIfInBounds_toArray, List.set_cons_zero, List.set_cons_succ, i64_w, i32_w]
      rfl
    refine pure_ (i := 6) (N := (some 103)) (v := undef) (a' := ?_) #[true, true, true, true, true, true, true, false, false, false, false] rfl rfl (by kernel_rfl) (fun _ _ _ h => h) (Or.inr ⟨by rfl, rfl⟩) ?_ ?_
    rotate_left
    · simp only [Act.put, List.setIfInBounds_toArray, List.set_cons_zero, List.set_cons_succ, i64_w, i32_w]
      rfl
    refine pure_ (i := 7) (N := (some 104)) (v := undef) (a' := ?_) #[true, true, true, true, true, true, true, true, false, false, false] rfl rfl (by kernel_rfl) (fun _ _ _ h => h) (Or.inr ⟨by rfl, rfl⟩) ?_ ?_
    rotate_left
    · simp only [Act.put, List.setIfInBounds_toArray, List.set_cons_zero, List.set_cons_succ, i64_w, i32_w]
      rfl
    refine pure_ (i := 8) (N := (some 105)) (v := ?_) (a' := ?_) #[true, true, true, true, true, true, true, true, true, false, false] rfl rfl (by kernel_rfl) (fun _ _ _ h => h) (Or.inl ⟨by rfl, ?_⟩) ?_ ?_
    rotate_left
    · intro w'
      go_simp
      with_reducible rfl
    rotate_left
    · simp only [Act.put, List.setIfInBounds_toArray, List.set_cons_zero, List.set_cons_succ, i64_w, i32_w]
      rfl
    have HWW := Lib.hid (HP4.out.set11 (.int .i64 a1.vis) (.int .i64 a1.ret) (.int .i64 a1.del) (.int .i64 a1.win) (.int .i64 a1.max) (.string a1.dead) (.bool a1.fifo) (.int .i64 now1) (.int .i64 next1) (.slice A1 n1 c1') (.slice A2 n2 c2'))
    obtain ⟨z0, z1, z2, z3, z4, z5, z6, z7, z8, z9, z10, zf⟩ := blk11 HP4.out.blk0
    refine one_ (i := 9) (N := none) #[true, true, true, true, true, true, true, true, true, true, false] rfl rfl (by kernel_rfl) (by decide) (fun K hK => ?_)
    refine skip_ (w1 := ?_) (by rfl) rfl ?_ ?_
    rotate_left
    · go_simp
      rfl
    refine hK.out _ _ (HWW.out.blk1) (fun hHeld => ?_)
    clear hK K
    generalize (((((((((((w4.setCell ⟨w.heap.size + 2, 0, none⟩ (.int .i64 a1.vis)).setCell ⟨w.heap.size + 2, 1, none⟩ (.int .i64 a1.ret)).setCell ⟨w.heap.size + 2, 2, none⟩ (.int .i64 a1.del)).setCell ⟨w.heap.size + 2, 3, none⟩ (.int .i64 a1.win)).setCell ⟨w.heap.size + 2, 4, none⟩ (.int .i64 a1.max)).setCell ⟨w.heap.size + 2, 5, none⟩ (.string a1.dead)).setCell ⟨w.heap.size + 2, 6, none⟩ (.bool a1.fifo)).setCell ⟨w.heap.size + 2, 7, none⟩ (.int .i64 now1)).setCell ⟨w.heap.size + 2, 8, none⟩ (.int .i64 next1)).setCell ⟨w.heap.size + 2, 9, none⟩ (.slice A1 n1 c1')).setCell ⟨w.heap.size + 2, 10, none⟩ (.slice A2 n2 c2')) = W at *
    refine pure_ (i := 10) (N := (some 7)) (v := ?_) (a' := ?_) #[true, true, true, true, true, true, true, true, true, true, true] rfl rfl (by kernel_rfl) (fun _ _ _ h => h) (Or.inl ⟨by rfl, ?_⟩) ?_ ?_
    rotate_left
    · intro w'
      go_simp
      with_reducible rfl
    rotate_left
    · simp only [Act.put, List.setIfInBounds_toArray, List.set_cons_zero, List.set_cons_succ, i64_w, i32_w]
      rfl
    refine done_ (by kernel_rfl) ?_
    go_wp2_with fail
    have hW := HWW.out
    obtain ⟨j0, j1, j2, j3, j4, j5, j6, j7, j8, j9, j10, _⟩ := blk11 hW.blk0
    exact bodyPost_ret (v := .tuple #[.agg #[.int .i64 a1.vis, .int .i64 a1.ret, .int .i64 a1.del, .int .i64 a1.win, .int .i64 a1.max, .string a1.dead, .bool a1.fifo, .int .i64 now1, .int .i64 next1, .slice A1 n1 c1', .slice A2 n2 c2'], .bool false]) (by simp [results, Tryz.results22, go_sem, j0, j1, j2, j3, j4, j5, j6, j7, j8, j9, j10]) rfl (HPO.out _ _ ⟨false, A1, n1, c1', A2, n2, c2', fun e => HTB.out (HEQ.out e).1, by rw [← HS1.out]; rfl, by rw [← HS1.out, ← HS2.out, show (Qs.mk a1 now1 next1 l1 k1).k = k from HKK.out]; exact hW.tail.tail.tail.down2.up3.tail⟩)
  case true =>
    refine pure_ (i := 5) (N := (some 102)) (v := ?_) (a' := ?_) #[true, true, true, true, true, true, false, false, false, false, false] rfl rfl (by kernel_rfl) (fun _ _ _ h => h) (Or.inl ⟨by rfl, ?_⟩) ?_ ?_
    rotate_left
    · intro w'
      go_simp
      with_reducible rfl
    rotate_left
    · simp only [Act.put, List.setIfInBounds_toArray, List.set_cons_zero, List.set_cons_succ, i64_w, i32_w]
      rfl
    refine pure_ (i := 6) (N := (some 103)) (v := ?_) (a' := ?_) #[true, true, true, true, true, true, true, false, false, false, false] rfl rfl (by kernel_rfl) (fun _ _ _ h => h) (Or.inl ⟨by rfl, ?_⟩) ?_ ?_
    rotate_left
    · intro w'
      go_simp
      with_reducible rfl
    rotate_left
    · simp only [Act.put, List.setIfInBounds_toArray, List.set_cons_zero, List.set_cons_succ, i64_w, i32_w]
      rfl
    refine pure_ (i := 7) (N := (some 104)) (v := ?_) (a' := ?_) #[true, true, true, true, true, true, true, true, false, false, false] rfl rfl (by kernel_rfl) (fun _ _ _ h => h) (Or.inl ⟨by rfl, ?_⟩) ?_ ?_
    rotate_left
    · intro w'
      go_simp
      with_reducible rfl
    rotate_left
    · simp only [Act.put, List.setIfInBounds_toArray, List.set_cons_zero, List.set_cons_succ, i64_w, i32_w]
      rfl
    refine pure_ (i := 8) (N := (some 105)) (v := ?_) (a' := ?_) #[true, true, true, true, true, true, true, true, true, false, false] rfl rfl (by kernel_rfl) (fun _ _ _ h => h) (Or.inl ⟨by rfl, ?_⟩) ?_ ?_
    rotate_left
    · intro w'
      go_simp
      with_reducible rfl
    rotate_left
    · simp only [Act.put, List.setIfInBounds_toArray, List.set_cons_zero, List.set_cons_succ, i64_w, i32_w]
      rfl
    have HWW := Lib.hid (HP4.out.set11 (.int .i64 a1.vis) (.int .i64 a1.ret) (.int .i64 a1.del) (.int .i64 a1.win) (.int .i64 a1.max) (.string a1.dead) (.bool a1.fifo) (.int .i64 now1) (.int .i64 next1) (.slice A1 n1 c1') (.slice A2 n2 c2'))
    obtain ⟨z0, z1, z2, z3, z4, z5, z6, z7, z8, z9, z10, zf⟩ := blk11 HP4.out.blk0
    refine one_ (i := 9) (N := none) #[true, true, true, true, true, true, true, true, true, true, false] rfl rfl (by kernel_rfl) (by decide) (fun K hK => ?_)
    refine skip_ (w1 := ?_) (by rfl) rfl ?_ ?_
    rotate_left
    · go_simp
      rfl
    refine hK.out _ _ (HWW.out.blk1) (fun hHeld => ?_)
    clear hK K
    generalize (((((((((((w4.setCell ⟨w.heap.size + 2, 0, none⟩ (.int .i64 a1.vis)).setCell ⟨w.heap.size + 2, 1, none⟩ (.int .i64 a1.ret)).setCell ⟨w.heap.size + 2, 2, none⟩ (.int .i64 a1.del)).setCell ⟨w.heap.size + 2, 3, none⟩ (.int .i64 a1.win)).setCell ⟨w.heap.size + 2, 4, none⟩ (.int .i64 a1.max)).setCell ⟨w.heap.size + 2, 5, none⟩ (.string a1.dead)).setCell ⟨w.heap.size + 2, 6, none⟩ (.bool a1.fifo)).setCell ⟨w.heap.size + 2, 7, none⟩ (.int .i64 now1)).setCell ⟨w.heap.size + 2, 8, none⟩ (.int .i64 next1)).setCell ⟨w.heap.size + 2, 9, none⟩ (.slice A1 n1 c1')).setCell ⟨w.heap.size + 2, 10, none⟩ (.slice A2 n2 c2')) = W at *
    refine pure_ (i := 10) (N := (some 7)) (v := ?_) (a' := ?_) #[true, true, true, true, true, true, true, true, true, true, true] rfl rfl (by kernel_rfl) (fun _ _ _ h => h) (Or.inl ⟨by rfl, ?_⟩) ?_ ?_
    rotate_left
    · intro w'
      go_simp
      with_reducible rfl
    rotate_left
    · simp only [Act.put, List.setIfInBounds_toArray, List.set_cons_zero, List.set_cons_succ, i64_w, i32_w]
      rfl
    refine done_ (by kernel_rfl) ?_
    go_wp2_with fail
    have hW := HWW.out
    obtain ⟨j0, j1, j2, j3, j4, j5, j6, j7, j8, j9, j10, _⟩ := blk11 hW.blk0
    exact bodyPost_ret (v := .tuple #[.agg #[.int .i64 a1.vis, .int .i64 a1.ret, .int .i64 a1.del, .int .i64 a1.win, .int .i64 a1.max, .string a1.dead, .bool a1.fifo, .int .i64 now1, .int .i64 next1, .slice A1 n1 c1', .slice A2 n2 c2'], .bool (x2 == y2)]) (by simp [results, Tryz.results22, go_sem, j0, j1, j2, j3, j4, j5, j6, j7, j8, j9, j10]) rfl (HPO.out _ _ ⟨(x2 == y2), A1, n1, c1', A2, n2, c2', fun e => by rw [(HEQ.out e).2]; simp, by rw [← HS1.out]; rfl, by rw [← HS1.out, ← HS2.out, show (Qs.mk a1 now1 next1 l1 k1).k = k from HKK.out]; exact hW.tail.tail.tail.down2.up3.tail⟩)
end
end Go.Proofs.YtoclcmnphdgfpaaGreatDoor
set_option linter.unusedVariables false
set_option linter.unusedSimpArgs false
namespace Go.Proofs.YtoclcmnphdgfpaaGreatDoor
open Go.RowKit Go.Maps Go.Proofs.YtoclcmnphdgfpaaGreatDoorW.PrintWords Go.Proofs.YtoclcmnphdgfpaaGreatDoorW.PrintLast
section
variable {w0 w : World} {σ ρ : Qs} {Ps : List Asn} {qb T T' : Nat}
set_option maxHeartbeats 1600000 in
set_option maxRecDepth 100000 in
theorem Hp.does3 {A A2 : Option Addr} {n c n2 c2' : Nat} (h : Hp w0 w (ADm (.slice A n c) ρ.l :: AKy (.slice A2 n2 c2') ρ.k :: AQu qb σ T :: Ps)) (hi : QInv ρ T') (hrec : RecOk w0 T) (hT6 : T < 1000000) (hT7 : T' ≤ 1000000) (num num2 : Int) (body group key rec : ByteArray) (qa : QA) (hgs : group.size ≤ maxLen) (hks : key.size ≤ maxLen) :
    Calls Tryz.prog 22 #[.pointer (some ⟨qb, 0, none⟩), ρ.val (.slice A n c) (.slice A2 n2 c2'), opVal 3 num num2 body group key rec qa] w fun e w' => ∃ b A' n' c' B' m' d', (σ = ρ → b = true) ∧ e = .returned (.tuple #[(qAck ρ rec).1.val (.slice A' n' c') (.slice B' m' d'), .bool b]) ∧ Hp w0 w' (ADm (.slice A' n' c') (qAck ρ rec).1.l :: AKy (.slice B' m' d') (qAck ρ rec).1.k :: AQu qb ((qAck σ rec).1) T :: Ps) := by
  obtain ⟨⟨a1, now1, next1, l1, k1⟩, hs1⟩ : ∃ s1, s1 = (qAck ρ rec).1 := ⟨_, rfl⟩
  obtain ⟨σ1, hs2⟩ : ∃ s1, s1 = (qAck σ rec).1 := ⟨_, rfl⟩
  obtain ⟨x1, hx1⟩ : ∃ z, z = (qAck ρ rec).2.1 := ⟨_, rfl⟩
  obtain ⟨y1, hy1⟩ : ∃ z, z = (qAck σ rec).2.1 := ⟨_, rfl⟩
  obtain ⟨x2, hx2⟩ : ∃ z, z = (qAck ρ rec).2.2 := ⟨_, rfl⟩
  obtain ⟨y2, hy2⟩ : ∃ z, z = (qAck σ rec).2.2 := ⟨_, rfl⟩
  have HEQ := Lib.hid (show σ = ρ → y1 = x1 ∧ y2 = x2 from fun e => by rw [hx1, hy1, hx2, hy2, e]; exact ⟨rfl, rfl⟩)
  have HS1 := Lib.hid hs1
  have HS2 := Lib.hid hs2
  have hrt := fun (w0 w : World) (Ps : List Asn) (h : Hp w0 w (ADm (.slice A n c) ρ.l :: AKy (.slice A2 n2 c2') ρ.k :: Ps)) => h.refAck (A2 := A2) (n2 := n2) (c2' := c2') hi (hi.dmOk hT7) rec
  rw [← hs1, ← hx1, ← hx2] at hrt
  have HRT := Lib.hid hrt
  have HKK := Lib.hid (show k1 = ρ.k by
    have := congrArg Qs.k hs1
    rw [show k1 = (Qs.mk a1 now1 next1 l1 k1).k from rfl, hs1]
    unfold qAck
    split <;> rfl)
  have hqt := fun (w0 w : World) (Ps : List Asn) (h : Hp w0 w (AQu qb σ T :: Ps)) (hr : RecOk w0 T) => h.quAck hr rec
  rw [← hs2, ← hy1, ← hy2] at hqt
  have HQT := Lib.hid hqt
  clear hs1 hs2 hx1 hy1 hx2 hy2 hrt hqt
  obtain ⟨a, now, next, l, k⟩ := ρ
  have HI := Lib.hid hi
  have HB := Lib.hid (h.alloc (.cells #[.int .i64 a.vis, .int .i64 a.ret, .int .i64 a.del, .int .i64 a.win, .int .i64 a.max, .string a.dead, .bool a.fifo, .int .i64 now, .int .i64 next, .slice A n c, .slice A2 n2 c2'] 58))
  have HO := Lib.hid (HB.out.alloc (.cells #[.int .i64 3, .int .i64 num, .int .i64 num2, .string body, .string group, .string key, .string rec, .int .i64 qa.vis, .int .i64 qa.ret, .int .i64 qa.del, .int .i64 qa.win, .int .i64 qa.max, .string qa.dead, .bool qa.fifo] 52))
  have HZ := Lib.hid (HO.out.alloc (.cells #[.int .i64 0, .int .i64 0, .int .i64 0, .int .i64 0, .int .i64 0, .string ⟨#[]⟩, .bool false, .int .i64 0, .int .i64 0, .slice none 0 0, .slice none 0 0] 58))
  have hsz1 : (w.alloc (.cells #[.int .i64 a.vis, .int .i64 a.ret, .int .i64 a.del, .int .i64 a.win, .int .i64 a.max, .string a.dead, .bool a.fifo, .int .i64 now, .int .i64 next, .slice A n c, .slice A2 n2 c2'] 58)).heap.size = w.heap.size + 1 := by simp
  have hsz2 : ((w.alloc (.cells #[.int .i64 a.vis, .int .i64 a.ret, .int .i64 a.del, .int .i64 a.win, .int .i64 a.max, .string a.dead, .bool a.fifo, .int .i64 now, .int .i64 next, .slice A n c, .slice A2 n2 c2'] 58)).alloc (.cells #[.int .i64 3, .int .i64 num, .int .i64 num2, .string body, .string group, .string key, .string rec, .int .i64 qa.vis, .int .i64 qa.ret, .int .i64 qa.del, .int .i64 qa.win, .int .i64 qa.max, .string qa.dead, .bool qa.fifo] 52)).heap.size = w.heap.size + 2 := by simp
  rw [hsz1, hsz2] at HZ
  rw [show Qs.val ⟨a, now, next, l, k⟩ (.slice A n c) (.slice A2 n2 c2') = .agg #[.int .i64 a.vis, .int .i64 a.ret, .int .i64 a.del, .int .i64 a.win, .int .i64 a.max, .string a.dead, .bool a.fifo, .int .i64 now, .int .i64 next, .slice A n c, .slice A2 n2 c2'] from rfl]
  have H0 := Lib.hid (show Qs.val ⟨a, now, next, l, k⟩ (.slice A n c) (.slice A2 n2 c2') = .agg #[.int .i64 a.vis, .int .i64 a.ret, .int .i64 a.del, .int .i64 a.win, .int .i64 a.max, .string a.dead, .bool a.fifo, .int .i64 now, .int .i64 next, .slice A n c, .slice A2 n2 c2'] from rfl)
  unfold opVal
  clear h hi hsz1 hsz2
  obtain ⟨c0, c1, c2, c3, c4, c5, c6, c7, c8, c9, c10, cf⟩ := blk11 HZ.out.blk2
  obtain ⟨o0, o1, o2, o3, o4, o5, o6, o7, o8, o9, o10, o11, o12, o13⟩ := blk14 HZ.out.blk1
  clear cf
  go_enter Tryz.func22, Tryz.ntmps22
  go_wp2_with fail
  rw [← H0.out]
  refine Calls.mono (HRT.out _ _ _ HZ.out.up4.up4) ?_
  rintro e w2 ⟨A1, n1, c1', rfl, hP⟩
  rw [show Qs.val ⟨a1, now1, next1, l1, k1⟩ (.slice A1 n1 c1') (.slice A2 n2 c2') = .agg #[.int .i64 a1.vis, .int .i64 a1.ret, .int .i64 a1.del, .int .i64 a1.win, .int .i64 a1.max, .string a1.dead, .bool a1.fifo, .int .i64 now1, .int .i64 next1, .slice A1 n1 c1', .slice A2 n2 c2'] from rfl]
  have HP := Lib.hid (hP.alloc (.cells #[.int .i64 a1.vis, .int .i64 a1.ret, .int .i64 a1.del, .int .i64 a1.win, .int .i64 a1.max, .string a1.dead, .bool a1.fifo, .int .i64 now1, .int .i64 next1, .slice A1 n1 c1', .slice A2 n2 c2'] 58))
  obtain ⟨nb, hnb⟩ : ∃ nb, nb = w2.heap.size := ⟨_, rfl⟩
  clear hP
  clear c0 c1 c2 c3 c4 c5 c6 c7 c8 c9 c10 o0 o1 o2 o3 o4 o5 o6 o7 o8 o9 o10 o11 o12 o13
  obtain ⟨o0, o1, o2, o3, o4, o5, o6, o7, o8, o9, o10, o11, o12, o13⟩ := blk14 HP.out.tail.blk3
  go_wp2_with fail
  refine Calls.mono (HQT.out _ _ _ HP.out.up6 hrec) ?_
  rintro e w3 ⟨rfl, hP⟩
  have HP3 := Lib.hid ((hP.up4.up5.tail.up5.tail).up2.swap)
  rw [← hnb] at HP3 ⊢
  clear hnb hP o0 o1 o2 o3 o4 o5 o6 o7 o8 o9 o10 o11 o12 o13
  by_cases e1 : y1 = x1
  case neg =>
    have he : (y1 == x1) = false := by simpa using e1
    have HF := Lib.hid (show σ = ⟨a, now, next, l, k⟩ → false = true from fun e => absurd (HEQ.out e).1 e1)
    clear e1
    obtain ⟨t0, t1, t2, t3, t4, t5, t6, t7, t8, t9, t10, _⟩ := blk11 HP3.out.blk1
    obtain ⟨z0, z1, z2, z3, z4, z5, z6, z7, z8, z9, z10, zf⟩ := blk11 HP3.out.blk0
    go_wp2_with fail
    have hW := HP3.out.set11 (.int .i64 a1.vis) (.int .i64 a1.ret) (.int .i64 a1.del) (.int .i64 a1.win) (.int .i64 a1.max) (.string a1.dead) (.bool a1.fifo) (.int .i64 now1) (.int .i64 next1) (.slice A1 n1 c1') (.slice A2 n2 c2')
    generalize (((((((((((w3.setCell ⟨w.heap.size + 2, 0, none⟩ (.int .i64 a1.vis)).setCell ⟨w.heap.size + 2, 1, none⟩ (.int .i64 a1.ret)).setCell ⟨w.heap.size + 2, 2, none⟩ (.int .i64 a1.del)).setCell ⟨w.heap.size + 2, 3, none⟩ (.int .i64 a1.win)).setCell ⟨w.heap.size + 2, 4, none⟩ (.int .i64 a1.max)).setCell ⟨w.heap.size + 2, 5, none⟩ (.string a1.dead)).setCell ⟨w.heap.size + 2, 6, none⟩ (.bool a1.fifo)).setCell ⟨w.heap.size + 2, 7, none⟩ (.int .i64 now1)).setCell ⟨w.heap.size + 2, 8, none⟩ (.int .i64 next1)).setCell ⟨w.heap.size + 2, 9, none⟩ (.slice A1 n1 c1')).setCell ⟨w.heap.size + 2, 10, none⟩ (.slice A2 n2 c2')) = WW at *
    obtain ⟨j0, j1, j2, j3, j4, j5, j6, j7, j8, j9, j10, _⟩ := blk11 hW.blk0
    exact bodyPost_ret (v := .tuple #[.agg #[.int .i64 a1.vis, .int .i64 a1.ret, .int .i64 a1.del, .int .i64 a1.win, .int .i64 a1.max, .string a1.dead, .bool a1.fifo, .int .i64 now1, .int .i64 next1, .slice A1 n1 c1', .slice A2 n2 c2'], .bool false]) (by simp [results, Tryz.results22, go_sem, j0, j1, j2, j3, j4, j5, j6, j7, j8, j9, j10]) rfl ⟨false, A1, n1, c1', A2, n2, c2', HF.out, by rw [← HS1.out]; rfl, by rw [← HS1.out, ← HS2.out, show (Qs.mk a1 now1 next1 l1 k1).k = k from HKK.out]; exact hW.tail.tail.down2⟩
  by_cases e2 : x2 = y2
  case neg =>
    have he : (y1 == x1) = true := by simpa using e1
    have he2 : (x2 == y2) = false := by simpa using e2
    have HF := Lib.hid (show σ = ⟨a, now, next, l, k⟩ → false = true from fun e => absurd (HEQ.out e).2.symm e2)
    clear e1 e2
    obtain ⟨t0, t1, t2, t3, t4, t5, t6, t7, t8, t9, t10, _⟩ := blk11 HP3.out.blk1
    obtain ⟨z0, z1, z2, z3, z4, z5, z6, z7, z8, z9, z10, zf⟩ := blk11 HP3.out.blk0
    go_wp2_with fail
    have hW := HP3.out.set11 (.int .i64 a1.vis) (.int .i64 a1.ret) (.int .i64 a1.del) (.int .i64 a1.win) (.int .i64 a1.max) (.string a1.dead) (.bool a1.fifo) (.int .i64 now1) (.int .i64 next1) (.slice A1 n1 c1') (.slice A2 n2 c2')
    generalize (((((((((((w3.setCell ⟨w.heap.size + 2, 0, none⟩ (.int .i64 a1.vis)).setCell ⟨w.heap.size + 2, 1, none⟩ (.int .i64 a1.ret)).setCell ⟨w.heap.size + 2, 2, none⟩ (.int .i64 a1.del)).setCell ⟨w.heap.size + 2, 3, none⟩ (.int .i64 a1.win)).setCell ⟨w.heap.size + 2, 4, none⟩ (.int .i64 a1.max)).setCell ⟨w.heap.size + 2, 5, none⟩ (.string a1.dead)).setCell ⟨w.heap.size + 2, 6, none⟩ (.bool a1.fifo)).setCell ⟨w.heap.size + 2, 7, none⟩ (.int .i64 now1)).setCell ⟨w.heap.size + 2, 8, none⟩ (.int .i64 next1)).setCell ⟨w.heap.size + 2, 9, none⟩ (.slice A1 n1 c1')).setCell ⟨w.heap.size + 2, 10, none⟩ (.slice A2 n2 c2')) = WW at *
    obtain ⟨j0, j1, j2, j3, j4, j5, j6, j7, j8, j9, j10, _⟩ := blk11 hW.blk0
    exact bodyPost_ret (v := .tuple #[.agg #[.int .i64 a1.vis, .int .i64 a1.ret, .int .i64 a1.del, .int .i64 a1.win, .int .i64 a1.max, .string a1.dead, .bool a1.fifo, .int .i64 now1, .int .i64 next1, .slice A1 n1 c1', .slice A2 n2 c2'], .bool false]) (by simp [results, Tryz.results22, go_sem, j0, j1, j2, j3, j4, j5, j6, j7, j8, j9, j10]) rfl ⟨false, A1, n1, c1', A2, n2, c2', HF.out, by rw [← HS1.out]; rfl, by rw [← HS1.out, ← HS2.out, show (Qs.mk a1 now1 next1 l1 k1).k = k from HKK.out]; exact hW.tail.tail.down2⟩
  have he : (y1 == x1) = true := by simpa using e1
  have he2 : (x2 == y2) = true := by simpa using e2
  clear e1 e2
  obtain ⟨t0, t1, t2, t3, t4, t5, t6, t7, t8, t9, t10, _⟩ := blk11 HP3.out.blk1
  obtain ⟨z0, z1, z2, z3, z4, z5, z6, z7, z8, z9, z10, zf⟩ := blk11 HP3.out.blk0
  go_wp2_with fail
  have hW := HP3.out.set11 (.int .i64 a1.vis) (.int .i64 a1.ret) (.int .i64 a1.del) (.int .i64 a1.win) (.int .i64 a1.max) (.string a1.dead) (.bool a1.fifo) (.int .i64 now1) (.int .i64 next1) (.slice A1 n1 c1') (.slice A2 n2 c2')
  generalize (((((((((((w3.setCell ⟨w.heap.size + 2, 0, none⟩ (.int .i64 a1.vis)).setCell ⟨w.heap.size + 2, 1, none⟩ (.int .i64 a1.ret)).setCell ⟨w.heap.size + 2, 2, none⟩ (.int .i64 a1.del)).setCell ⟨w.heap.size + 2, 3, none⟩ (.int .i64 a1.win)).setCell ⟨w.heap.size + 2, 4, none⟩ (.int .i64 a1.max)).setCell ⟨w.heap.size + 2, 5, none⟩ (.string a1.dead)).setCell ⟨w.heap.size + 2, 6, none⟩ (.bool a1.fifo)).setCell ⟨w.heap.size + 2, 7, none⟩ (.int .i64 now1)).setCell ⟨w.heap.size + 2, 8, none⟩ (.int .i64 next1)).setCell ⟨w.heap.size + 2, 9, none⟩ (.slice A1 n1 c1')).setCell ⟨w.heap.size + 2, 10, none⟩ (.slice A2 n2 c2')) = WW at *
  obtain ⟨j0, j1, j2, j3, j4, j5, j6, j7, j8, j9, j10, _⟩ := blk11 hW.blk0
  exact bodyPost_ret (v := .tuple #[.agg #[.int .i64 a1.vis, .int .i64 a1.ret, .int .i64 a1.del, .int .i64 a1.win, .int .i64 a1.max, .string a1.dead, .bool a1.fifo, .int .i64 now1, .int .i64 next1, .slice A1 n1 c1', .slice A2 n2 c2'], .bool true]) (by simp [results, Tryz.results22, go_sem, j0, j1, j2, j3, j4, j5, j6, j7, j8, j9, j10]) rfl ⟨true, A1, n1, c1', A2, n2, c2', fun _ => rfl, by rw [← HS1.out]; rfl, by rw [← HS1.out, ← HS2.out, show (Qs.mk a1 now1 next1 l1 k1).k = k from HKK.out]; exact hW.tail.tail.down2⟩
end
end Go.Proofs.YtoclcmnphdgfpaaGreatDoor
set_option linter.unusedVariables false
set_option linter.unusedSimpArgs false
namespace Go.Proofs.YtoclcmnphdgfpaaGreatDoor
open Go.RowKit Go.Maps Go.Proofs.YtoclcmnphdgfpaaGreatDoorW.PrintWords Go.Proofs.YtoclcmnphdgfpaaGreatDoorW.PrintLast
section
variable {w0 w : World} {σ ρ : Qs} {Ps : List Asn} {qb T T' : Nat}
set_option maxHeartbeats 1600000 in
set_option maxRecDepth 100000 in
theorem Hp.does4 {A A2 : Option Addr} {n c n2 c2' : Nat} (h : Hp w0 w (ADm (.slice A n c) ρ.l :: AKy (.slice A2 n2 c2') ρ.k :: AQu qb σ T :: Ps)) (hi : QInv ρ T') (hrec : RecOk w0 T) (hT6 : T < 1000000) (hT7 : T' ≤ 1000000) (num num2 : Int) (body group key rec : ByteArray) (qa : QA) (hgs : group.size ≤ maxLen) (hks : key.size ≤ maxLen) :
    Calls Tryz.prog 22 #[.pointer (some ⟨qb, 0, none⟩), ρ.val (.slice A n c) (.slice A2 n2 c2'), opVal 4 num num2 body group key rec qa] w fun e w' => ∃ b A' n' c' B' m' d', (σ = ρ → b = true) ∧ e = .returned (.tuple #[(qExt ρ rec num).1.val (.slice A' n' c') (.slice B' m' d'), .bool b]) ∧ Hp w0 w' (ADm (.slice A' n' c') (qExt ρ rec num).1.l :: AKy (.slice B' m' d') (qExt ρ rec num).1.k :: AQu qb ((qExt σ rec num).1) T :: Ps) := by
  obtain ⟨⟨a1, now1, next1, l1, k1⟩, hs1⟩ : ∃ s1, s1 = (qExt ρ rec num).1 := ⟨_, rfl⟩
  obtain ⟨σ1, hs2⟩ : ∃ s1, s1 = (qExt σ rec num).1 := ⟨_, rfl⟩
  obtain ⟨x2, hx2⟩ : ∃ z, z = (qExt ρ rec num).2 := ⟨_, rfl⟩
  obtain ⟨y2, hy2⟩ : ∃ z, z = (qExt σ rec num).2 := ⟨_, rfl⟩
  have HEQ := Lib.hid (show σ = ρ → y2 = x2 from fun e => by rw [hx2, hy2, e])
  have HS1 := Lib.hid hs1
  have HS2 := Lib.hid hs2
  have hrt := fun (w0 w : World) (Ps : List Asn) (h : Hp w0 w (ADm (.slice A n c) ρ.l :: AKy (.slice A2 n2 c2') ρ.k :: Ps)) => h.refExt (A2 := A2) (n2 := n2) (c2' := c2') hi (hi.dmOk hT7) rec num
  rw [← hs1, ← hx2] at hrt
  have HRT := Lib.hid hrt
  have HKK := Lib.hid (show k1 = ρ.k by
    have := congrArg Qs.k hs1
    rw [show k1 = (Qs.mk a1 now1 next1 l1 k1).k from rfl, hs1]
    unfold qExt
    split
    · split
      · dsimp only
        split <;> rfl
      · rfl
    · rfl)
  have hqt := fun (w0 w : World) (Ps : List Asn) (h : Hp w0 w (AQu qb σ T :: Ps)) (hr : RecOk w0 T) => h.quExt hr rec num
  rw [← hs2, ← hy2] at hqt
  have HQT := Lib.hid hqt
  clear hs1 hs2 hx2 hy2 hrt hqt
  obtain ⟨a, now, next, l, k⟩ := ρ
  have HI := Lib.hid hi
  have HB := Lib.hid (h.alloc (.cells #[.int .i64 a.vis, .int .i64 a.ret, .int .i64 a.del, .int .i64 a.win, .int .i64 a.max, .string a.dead, .bool a.fifo, .int .i64 now, .int .i64 next, .slice A n c, .slice A2 n2 c2'] 58))
  have HO := Lib.hid (HB.out.alloc (.cells #[.int .i64 4, .int .i64 num, .int .i64 num2, .string body, .string group, .string key, .string rec, .int .i64 qa.vis, .int .i64 qa.ret, .int .i64 qa.del, .int .i64 qa.win, .int .i64 qa.max, .string qa.dead, .bool qa.fifo] 52))
  have HZ := Lib.hid (HO.out.alloc (.cells #[.int .i64 0, .int .i64 0, .int .i64 0, .int .i64 0, .int .i64 0, .string ⟨#[]⟩, .bool false, .int .i64 0, .int .i64 0, .slice none 0 0, .slice none 0 0] 58))
  have hsz1 : (w.alloc (.cells #[.int .i64 a.vis, .int .i64 a.ret, .int .i64 a.del, .int .i64 a.win, .int .i64 a.max, .string a.dead, .bool a.fifo, .int .i64 now, .int .i64 next, .slice A n c, .slice A2 n2 c2'] 58)).heap.size = w.heap.size + 1 := by simp
  have hsz2 : ((w.alloc (.cells #[.int .i64 a.vis, .int .i64 a.ret, .int .i64 a.del, .int .i64 a.win, .int .i64 a.max, .string a.dead, .bool a.fifo, .int .i64 now, .int .i64 next, .slice A n c, .slice A2 n2 c2'] 58)).alloc (.cells #[.int .i64 4, .int .i64 num, .int .i64 num2, .string body, .string group, .string key, .string rec, .int .i64 qa.vis, .int .i64 qa.ret, .int .i64 qa.del, .int .i64 qa.win, .int .i64 qa.max, .string qa.dead, .bool qa.fifo] 52)).heap.size = w.heap.size + 2 := by simp
  rw [hsz1, hsz2] at HZ
  rw [show Qs.val ⟨a, now, next, l, k⟩ (.slice A n c) (.slice A2 n2 c2') = .agg #[.int .i64 a.vis, .int .i64 a.ret, .int .i64 a.del, .int .i64 a.win, .int .i64 a.max, .string a.dead, .bool a.fifo, .int .i64 now, .int .i64 next, .slice A n c, .slice A2 n2 c2'] from rfl]
  have H0 := Lib.hid (show Qs.val ⟨a, now, next, l, k⟩ (.slice A n c) (.slice A2 n2 c2') = .agg #[.int .i64 a.vis, .int .i64 a.ret, .int .i64 a.del, .int .i64 a.win, .int .i64 a.max, .string a.dead, .bool a.fifo, .int .i64 now, .int .i64 next, .slice A n c, .slice A2 n2 c2'] from rfl)
  unfold opVal
  clear h hi hsz1 hsz2
  obtain ⟨c0, c1, c2, c3, c4, c5, c6, c7, c8, c9, c10, cf⟩ := blk11 HZ.out.blk2
  obtain ⟨o0, o1, o2, o3, o4, o5, o6, o7, o8, o9, o10, o11, o12, o13⟩ := blk14 HZ.out.blk1
  clear cf
  go_enter Tryz.func22, Tryz.ntmps22
  go_wp2_with fail
  rw [← H0.out]
  refine Calls.mono (HRT.out _ _ _ HZ.out.up4.up4) ?_
  rintro e w2 ⟨A1, n1, c1', rfl, hP⟩
  rw [show Qs.val ⟨a1, now1, next1, l1, k1⟩ (.slice A1 n1 c1') (.slice A2 n2 c2') = .agg #[.int .i64 a1.vis, .int .i64 a1.ret, .int .i64 a1.del, .int .i64 a1.win, .int .i64 a1.max, .string a1.dead, .bool a1.fifo, .int .i64 now1, .int .i64 next1, .slice A1 n1 c1', .slice A2 n2 c2'] from rfl]
  have HP := Lib.hid (hP.alloc (.cells #[.int .i64 a1.vis, .int .i64 a1.ret, .int .i64 a1.del, .int .i64 a1.win, .int .i64 a1.max, .string a1.dead, .bool a1.fifo, .int .i64 now1, .int .i64 next1, .slice A1 n1 c1', .slice A2 n2 c2'] 58))
  obtain ⟨nb, hnb⟩ : ∃ nb, nb = w2.heap.size := ⟨_, rfl⟩
  clear hP
  clear c0 c1 c2 c3 c4 c5 c6 c7 c8 c9 c10 o0 o1 o2 o3 o4 o5 o6 o7 o8 o9 o10 o11 o12 o13
  obtain ⟨o0, o1, o2, o3, o4, o5, o6, o7, o8, o9, o10, o11, o12, o13⟩ := blk14 HP.out.tail.blk3
  go_wp2_with fail
  clear o0 o1 o2 o3 o4 o5 o6 o7 o8 o9 o10 o11 o12 o13
  have HPd := Lib.hid (HP.out.below (Below.refl _ _).drew)
  rw [← hnb] at HP HPd ⊢
  clear hnb
  generalize hWe : w2.alloc (.cells #[.int .i64 a1.vis, .int .i64 a1.ret, .int .i64 a1.del, .int .i64 a1.win, .int .i64 a1.max, .string a1.dead, .bool a1.fifo, .int .i64 now1, .int .i64 next1, .slice A1 n1 c1', .slice A2 n2 c2'] 58) = We at *
  refine start_ (n := 11) (S := fun w' => w'.heap[nb]? = some (.cells #[.int .i64 a1.vis, .int .i64 a1.ret, .int .i64 a1.del, .int .i64 a1.win, .int .i64 a1.max, .string a1.dead, .bool a1.fifo, .int .i64 now1, .int .i64 next1, .slice A1 n1 c1', .slice A2 n2 c2'] 58) ∧ w'.heap[w.heap.size + 1]? = some (.cells #[.int .i64 4, .int .i64 num, .int .i64 num2, .string body, .string group, .string key, .string rec, .int .i64 qa.vis, .int .i64 qa.ret, .int .i64 qa.del, .int .i64 qa.win, .int .i64 qa.max, .string qa.dead, .bool qa.fifo] 52)) (ds := []) #[false, false, false, false, false, false, false, false, false, false, false] (by kernel_rfl) rfl rfl (⟨HPd.out.blk0, HPd.out.tail.blk3⟩) (fun hHeld => ?_)
  generalize We.drew = wd at *
  refine pure_ (i := 1) (N := (some 144)) (v := ?_) (a' := ?_) #[false, true, false, false, false, false, false, false, false, false, false] rfl rfl (by kernel_rfl) (fun _ _ _ h => h) (Or.inl ⟨by rfl, ?_⟩) ?_ ?_
  rotate_left
  · intro w'
    go_simp
    with_reducible rfl
  rotate_left
  · simp only [Act.put, List.setIfInBounds_toArray, List.set_cons_zero, List.set_cons_succ, i64_w, i32_w]
    rfl
  refine pure_ (i := 2) (N := (some 145)) (v := ?_) (a' := ?_) #[false, true, true, false, false, false, false, false, false, false, false] rfl rfl (by kernel_rfl) (fun _ _ _ h => h) (Or.inl ⟨by rfl, ?_⟩) ?_ ?_
  rotate_left
  · intro w'
    go_simp
    with_reducible rfl
  rotate_left
  · simp only [Act.put, List.setIfInBounds_toArray, List.set_cons_zero, List.set_cons_succ, i64_w, i32_w]
    rfl
  refine pure_ (i := 4) (N := (some 147)) (v := ?_) (a' := ?_) #[false, true, true, false, true, false, false, false, false, false, false] rfl rfl (by kernel_rfl) (fun _ _ _ h => h) (Or.inl ⟨by rfl, ?_⟩) ?_ ?_
  rotate_left
  · intro w'
    go_simp
    with_reducible rfl
  rotate_left
  · simp only [Act.put, List.setIfInBounds_toArray, List.set_cons_zero, List.set_cons_succ, i64_w, i32_w]
    rfl
  refine pure_ (i := 7) (N := (some 150)) (v := ?_) (a' := ?_) #[false, true, true, false, true, false, false, true, false, false, false] rfl rfl (by kernel_rfl) (fun _ _ _ h => h) (Or.inl ⟨by rfl, ?_⟩) ?_ ?_
  rotate_left
  · intro w'
    go_simp
    with_reducible rfl
  rotate_left
  · simp only [Act.put, List.setIfInBounds_toArray, List.set_cons_zero, List.set_cons_succ, i64_w, i32_w]
    rfl
  refine take_ (i := 0) (N := (some 143)) (v := ?_) (a' := ?_) #[true, true, true, false, true, false, false, true, false, false, false] rfl rfl (by kernel_rfl) (fun _ _ _ h => h) (Or.inl ⟨by rfl, ?_⟩) hHeld ?_ ?_
  rotate_left
  · rintro w' ⟨sb, so⟩
    obtain ⟨f0, f1, f2, f3, f4, f5, f6, f7, f8, f9, f10, _⟩ := blk11 sb
    go_simp
    with_reducible rfl
  rotate_left
  · simp only [Act.put, List.setIfInBounds_toArray, List.set_cons_zero, List.set_cons_succ, i64_w, i32_w]
    rfl
  refine take_ (i := 3) (N := (some 146)) (v := ?_) (a' := ?_) #[true, true, true, true, true, false, false, true, false, false, false] rfl rfl (by kernel_rfl) (fun _ _ _ h => h) (Or.inl ⟨by rfl, ?_⟩) hHeld ?_ ?_
  rotate_left
  · rintro w' ⟨sb, so⟩
    obtain ⟨g0, g1, g2, g3, g4, g5, g6, _⟩ := blk14 so
    go_simp
    with_reducible rfl
  rotate_left
  · simp only [Act.put, List.setIfInBounds_toArray, List.set_cons_zero, List.set_cons_succ, i64_w, i32_w]
    rfl
  refine take_ (i := 5) (N := (some 148)) (v := ?_) (a' := ?_) #[true, true, true, true, true, true, false, true, false, false, false] rfl rfl (by kernel_rfl) (fun _ _ _ h => h) (Or.inl ⟨by rfl, ?_⟩) hHeld ?_ ?_
  rotate_left
  · rintro w' ⟨sb, so⟩
    obtain ⟨g0, g1, g2, g3, g4, g5, g6, _⟩ := blk14 so
    go_simp
    with_reducible rfl
  rotate_left
  · simp only [Act.put, List.setIfInBounds_toArray, List.set_cons_zero, List.set_cons_succ, i64_w, i32_w]
    rfl
  refine one_ (i := 6) (N := some 149) #[true, true, true, true, true, true, true, true, false, false, false] rfl rfl (by kernel_rfl) (by decide) (fun K hK => ?_)
  refine goes_ Tryz.func19 (by kernel_rfl) rfl #[.pointer (some ⟨qb, 0, none⟩), .string rec, .int .i64 num] (by rfl) rfl rfl (by first | rfl | (go_simp; done) | (simp [Act.eval]; done) | (simp [Act.eval]; rfl)) ?_
  refine Calls.mono (HQT.out _ _ _ HPd.out.up6 hrec) ?_
  rintro e w3 ⟨rfl, hP⟩
  have HP3 := Lib.hid ((hP.up4.up6.tail).up2.swap)
  refine ⟨_, rfl, ?_⟩
  refine hK.out _ _ ⟨hP.blk1, hP.tail.tail.blk3⟩ (fun hHeld => ?_)
  clear hK K
  refine norm_ (a' := ?_) ?_ ?_
  rotate_left
  · show Act.put _ (some 149) _ = _
    simp only [Act.put, List.setIfInBounds_toArray, List.set_cons_zero, List.set_cons_succ, i64_w, i32_w]
    rfl
  clear hP
  refine pure_ (i := 8) (N := (some 151)) (v := ?_) (a' := ?_) #[true, true, true, true, true, true, true, true, true, false, false] rfl rfl (by kernel_rfl) (fun _ _ _ h => h) (Or.inl ⟨by rfl, ?_⟩) ?_ ?_
  rotate_left
  · intro w'
    go_simp
    with_reducible rfl
  rotate_left
  · simp only [Act.put, List.setIfInBounds_toArray, List.set_cons_zero, List.set_cons_succ, i64_w, i32_w]
    rfl
  have HWW := Lib.hid (HP3.out.set11 (.int .i64 a1.vis) (.int .i64 a1.ret) (.int .i64 a1.del) (.int .i64 a1.win) (.int .i64 a1.max) (.string a1.dead) (.bool a1.fifo) (.int .i64 now1) (.int .i64 next1) (.slice A1 n1 c1') (.slice A2 n2 c2'))
  obtain ⟨z0, z1, z2, z3, z4, z5, z6, z7, z8, z9, z10, zf⟩ := blk11 HP3.out.blk0
  refine one_ (i := 9) (N := none) #[true, true, true, true, true, true, true, true, true, true, false] rfl rfl (by kernel_rfl) (by decide) (fun K hK => ?_)
  refine skip_ (w1 := ?_) (by rfl) rfl ?_ ?_
  rotate_left
  · go_simp
    rfl
  refine hK.out _ _ (⟨HWW.out.blk1, HWW.out.tail.tail.tail.tail.tail.blk0⟩) (fun hHeld => ?_)
  clear hK K
  generalize (((((((((((w3.setCell ⟨w.heap.size + 2, 0, none⟩ (.int .i64 a1.vis)).setCell ⟨w.heap.size + 2, 1, none⟩ (.int .i64 a1.ret)).setCell ⟨w.heap.size + 2, 2, none⟩ (.int .i64 a1.del)).setCell ⟨w.heap.size + 2, 3, none⟩ (.int .i64 a1.win)).setCell ⟨w.heap.size + 2, 4, none⟩ (.int .i64 a1.max)).setCell ⟨w.heap.size + 2, 5, none⟩ (.string a1.dead)).setCell ⟨w.heap.size + 2, 6, none⟩ (.bool a1.fifo)).setCell ⟨w.heap.size + 2, 7, none⟩ (.int .i64 now1)).setCell ⟨w.heap.size + 2, 8, none⟩ (.int .i64 next1)).setCell ⟨w.heap.size + 2, 9, none⟩ (.slice A1 n1 c1')).setCell ⟨w.heap.size + 2, 10, none⟩ (.slice A2 n2 c2')) = W at *
  refine pure_ (i := 10) (N := (some 7)) (v := ?_) (a' := ?_) #[true, true, true, true, true, true, true, true, true, true, true] rfl rfl (by kernel_rfl) (fun _ _ _ h => h) (Or.inl ⟨by rfl, ?_⟩) ?_ ?_
  rotate_left
  · intro w'
    go_simp
    with_reducible rfl
  rotate_left
  · simp only [Act.put, List.setIfInBounds_toArray, List.set_cons_zero, List.set_cons_succ, i64_w, i32_w]
    rfl
  refine done_ (by kernel_rfl) ?_
  go_wp2_with fail
  have hW := HWW.out
  obtain ⟨j0, j1, j2, j3, j4, j5, j6, j7, j8, j9, j10, _⟩ := blk11 hW.blk0
  exact bodyPost_ret (v := .tuple #[.agg #[.int .i64 a1.vis, .int .i64 a1.ret, .int .i64 a1.del, .int .i64 a1.win, .int .i64 a1.max, .string a1.dead, .bool a1.fifo, .int .i64 now1, .int .i64 next1, .slice A1 n1 c1', .slice A2 n2 c2'], .bool (y2 == x2)]) (by simp [results, Tryz.results22, go_sem, j0, j1, j2, j3, j4, j5, j6, j7, j8, j9, j10]) rfl ⟨(y2 == x2), A1, n1, c1', A2, n2, c2', fun e => by rw [HEQ.out e]; simp, by rw [← HS1.out]; rfl, by rw [← HS1.out, ← HS2.out, show (Qs.mk a1 now1 next1 l1 k1).k = k from HKK.out]; exact hW.tail.tail.down2.up3.tail⟩
end
end Go.Proofs.YtoclcmnphdgfpaaGreatDoor
set_option linter.unusedVariables false
set_option linter.unusedSimpArgs false
namespace Go.Proofs.YtoclcmnphdgfpaaGreatDoor
open Go.RowKit Go.Maps Go.Proofs.YtoclcmnphdgfpaaGreatDoorW.PrintWords Go.Proofs.YtoclcmnphdgfpaaGreatDoorW.PrintLast
section
variable {w0 w : World} {σ ρ : Qs} {Ps : List Asn} {qb T T' : Nat}
set_option maxHeartbeats 1600000 in
set_option maxRecDepth 100000 in
theorem Hp.does5 {A A2 : Option Addr} {n c n2 c2' : Nat} (h : Hp w0 w (ADm (.slice A n c) ρ.l :: AKy (.slice A2 n2 c2') ρ.k :: AQu qb σ T :: Ps)) (hi : QInv ρ T') (hrec : RecOk w0 T) (hT6 : T < 1000000) (hT7 : T' ≤ 1000000) (num num2 : Int) (body group key rec : ByteArray) (qa : QA) (hgs : group.size ≤ maxLen) (hks : key.size ≤ maxLen) :
    Calls Tryz.prog 22 #[.pointer (some ⟨qb, 0, none⟩), ρ.val (.slice A n c) (.slice A2 n2 c2'), opVal 5 num num2 body group key rec qa] w fun e w' => ∃ b A' n' c' B' m' d', (σ = ρ → b = true) ∧ e = .returned (.tuple #[(qPurge ρ).val (.slice A' n' c') (.slice B' m' d'), .bool b]) ∧ Hp w0 w' (ADm (.slice A' n' c') (qPurge ρ).l :: AKy (.slice B' m' d') (qPurge ρ).k :: AQu qb (qPurge σ) T :: Ps) := by
  have hqt := fun (w0 w : World) (Ps : List Asn) (h : Hp w0 w (AQu qb σ T :: Ps)) => h.quPurge (Nat.le_of_lt hT6)
  have HQT := Lib.hid hqt
  have HSL := Lib.hid (show n = ρ.l.length by have := (Kd.R_reads' h.head).1; rwa [List.length_map] at this)
  clear hqt
  obtain ⟨sl, hsl⟩ : ∃ sl, sl = σ.l.length := ⟨_, rfl⟩
  have HSS := Lib.hid hsl
  clear hsl
  obtain ⟨a, now, next, l, k⟩ := ρ
  have HI := Lib.hid hi
  have HB := Lib.hid (h.alloc (.cells #[.int .i64 a.vis, .int .i64 a.ret, .int .i64 a.del, .int .i64 a.win, .int .i64 a.max, .string a.dead, .bool a.fifo, .int .i64 now, .int .i64 next, .slice A n c, .slice A2 n2 c2'] 58))
  have HO := Lib.hid (HB.out.alloc (.cells #[.int .i64 5, .int .i64 num, .int .i64 num2, .string body, .string group, .string key, .string rec, .int .i64 qa.vis, .int .i64 qa.ret, .int .i64 qa.del, .int .i64 qa.win, .int .i64 qa.max, .string qa.dead, .bool qa.fifo] 52))
  have HZ := Lib.hid (HO.out.alloc (.cells #[.int .i64 0, .int .i64 0, .int .i64 0, .int .i64 0, .int .i64 0, .string ⟨#[]⟩, .bool false, .int .i64 0, .int .i64 0, .slice none 0 0, .slice none 0 0] 58))
  have hsz1 : (w.alloc (.cells #[.int .i64 a.vis, .int .i64 a.ret, .int .i64 a.del, .int .i64 a.win, .int .i64 a.max, .string a.dead, .bool a.fifo, .int .i64 now, .int .i64 next, .slice A n c, .slice A2 n2 c2'] 58)).heap.size = w.heap.size + 1 := by simp
  have hsz2 : ((w.alloc (.cells #[.int .i64 a.vis, .int .i64 a.ret, .int .i64 a.del, .int .i64 a.win, .int .i64 a.max, .string a.dead, .bool a.fifo, .int .i64 now, .int .i64 next, .slice A n c, .slice A2 n2 c2'] 58)).alloc (.cells #[.int .i64 5, .int .i64 num, .int .i64 num2, .string body, .string group, .string key, .string rec, .int .i64 qa.vis, .int .i64 qa.ret, .int .i64 qa.del, .int .i64 qa.win, .int .i64 qa.max, .string qa.dead, .bool qa.fifo] 52)).heap.size = w.heap.size + 2 := by simp
  rw [hsz1, hsz2] at HZ
  rw [show Qs.val ⟨a, now, next, l, k⟩ (.slice A n c) (.slice A2 n2 c2') = .agg #[.int .i64 a.vis, .int .i64 a.ret, .int .i64 a.del, .int .i64 a.win, .int .i64 a.max, .string a.dead, .bool a.fifo, .int .i64 now, .int .i64 next, .slice A n c, .slice A2 n2 c2'] from rfl]
  have H0 := Lib.hid (show Qs.val ⟨a, now, next, l, k⟩ (.slice A n c) (.slice A2 n2 c2') = .agg #[.int .i64 a.vis, .int .i64 a.ret, .int .i64 a.del, .int .i64 a.win, .int .i64 a.max, .string a.dead, .bool a.fifo, .int .i64 now, .int .i64 next, .slice A n c, .slice A2 n2 c2'] from rfl)
  unfold opVal
  clear h hi hsz1 hsz2
  obtain ⟨c0, c1, c2, c3, c4, c5, c6, c7, c8, c9, c10, cf⟩ := blk11 HZ.out.blk2
  obtain ⟨o0, o1, o2, o3, o4, o5, o6, o7, o8, o9, o10, o11, o12, o13⟩ := blk14 HZ.out.blk1
  clear cf
  have HP0 := Lib.hid (show Hp w0 ((((w.alloc (.cells #[.int .i64 a.vis, .int .i64 a.ret, .int .i64 a.del, .int .i64 a.win, .int .i64 a.max, .string a.dead, .bool a.fifo, .int .i64 now, .int .i64 next, .slice A n c, .slice A2 n2 c2'] 58)).alloc (.cells #[.int .i64 5, .int .i64 num, .int .i64 num2, .string body, .string group, .string key, .string rec, .int .i64 qa.vis, .int .i64 qa.ret, .int .i64 qa.del, .int .i64 qa.win, .int .i64 qa.max, .string qa.dead, .bool qa.fifo] 52)).alloc (.cells #[.int .i64 0, .int .i64 0, .int .i64 0, .int .i64 0, .int .i64 0, .string ⟨#[]⟩, .bool false, .int .i64 0, .int .i64 0, .slice none 0 0, .slice none 0 0] 58)).setCell ⟨w.heap.size, 9, none⟩ (.slice none 0 0)) (ABlk w.heap.size (.cells #[.int .i64 a.vis, .int .i64 a.ret, .int .i64 a.del, .int .i64 a.win, .int .i64 a.max, .string a.dead, .bool a.fifo, .int .i64 now, .int .i64 next, .slice none 0 0, .slice A2 n2 c2'] 58) :: _) from HZ.out.up2.setBlk 9 (.slice none 0 0))
  go_enter Tryz.func22, Tryz.ntmps22
  have cf9 := (blk11 HZ.out.blk2).2.2.2.2.2.2.2.2.2.2.2 9
  generalize hWe : ((w.alloc (.cells #[.int .i64 a.vis, .int .i64 a.ret, .int .i64 a.del, .int .i64 a.win, .int .i64 a.max, .string a.dead, .bool a.fifo, .int .i64 now, .int .i64 next, .slice A n c, .slice A2 n2 c2'] 58)).alloc (.cells #[.int .i64 5, .int .i64 num, .int .i64 num2, .string body, .string group, .string key, .string rec, .int .i64 qa.vis, .int .i64 qa.ret, .int .i64 qa.del, .int .i64 qa.win, .int .i64 qa.max, .string qa.dead, .bool qa.fifo] 52)).alloc (.cells #[.int .i64 0, .int .i64 0, .int .i64 0, .int .i64 0, .int .i64 0, .string ⟨#[]⟩, .bool false, .int .i64 0, .int .i64 0, .slice none 0 0, .slice none 0 0] 58) = We at *
  go_wp2_with fail
  clear c0 c1 c2 c3 c4 c5 c6 c7 c8 c9 c10 o0 o1 o2 o3 o4 o5 o6 o7 o8 o9 o10 o11 o12 o13 cf9
  generalize We.setCell ⟨w.heap.size, 9, none⟩ (.slice none 0 0) = Wf at *
  have HPd := Lib.hid ((HP0.out.below (Below.refl _ _).drew).swap)
  refine start_ (n := 7) (S := fun w' => w'.heap[w.heap.size]? = some (.cells #[.int .i64 a.vis, .int .i64 a.ret, .int .i64 a.del, .int .i64 a.win, .int .i64 a.max, .string a.dead, .bool a.fifo, .int .i64 now, .int .i64 next, .slice none 0 0, .slice A2 n2 c2'] 58)) (ds := []) #[false, false, false, false, false, false, false] (by kernel_rfl) rfl rfl (HPd.out.blk1) (fun hHeld => ?_)
  generalize Wf.drew = wd at *
  refine pure_ (i := 1) (N := (some 159)) (v := ?_) (a' := ?_) #[false, true, false, false, false, false, false] rfl rfl (by kernel_rfl) (fun _ _ _ h => h) (Or.inl ⟨by rfl, ?_⟩) ?_ ?_
  rotate_left
  · intro w'
    go_simp
    with_reducible rfl
  rotate_left
  · simp only [Act.put, List.setIfInBounds_toArray, List.set_cons_zero, List.set_cons_succ, i64_w, i32_w]
    rfl
  refine pure_ (i := 3) (N := (some 161)) (v := ?_) (a' := ?_) #[false, true, false, true, false, false, false] rfl rfl (by kernel_rfl) (fun _ _ _ h => h) (Or.inl ⟨by rfl, ?_⟩) ?_ ?_
  rotate_left
  · intro w'
    go_simp
    with_reducible rfl
  rotate_left
  · simp only [Act.put, List.setIfInBounds_toArray, List.set_cons_zero, List.set_cons_succ, i64_w, i32_w]
    rfl
  refine take_ (i := 0) (N := (some 158)) (v := ?_) (a' := ?_) #[true, true, false, true, false, false, false] rfl rfl (by kernel_rfl) (fun _ _ _ h => h) (Or.inl ⟨by rfl, ?_⟩) hHeld ?_ ?_
  rotate_left
  · rintro w' sb
    obtain ⟨f0, f1, f2, f3, f4, f5, f6, f7, f8, f9, f10, _⟩ := blk11 sb
    go_simp
    with_reducible rfl
  rotate_left
  · simp only [Act.put, List.setIfInBounds_toArray, List.set_cons_zero, List.set_cons_succ, i64_w, i32_w]
    rfl
  refine one_ (i := 2) (N := some 160) #[true, true, true, true, false, false, false] rfl rfl (by kernel_rfl) (by decide) (fun K hK => ?_)
  refine goes_ Tryz.func26 (by kernel_rfl) rfl #[.pointer (some ⟨qb, 0, none⟩)] (by rfl) rfl rfl (by first | rfl | (go_simp; done) | (simp [Act.eval]; done) | (simp [Act.eval]; rfl)) ?_
  refine Calls.mono (HQT.out _ _ _ HPd.out.up5) ?_
  rintro e w3 ⟨rfl, hP⟩
  rw [← HSS.out]
  have HP3 := Lib.hid (hP.swap.up2.swap)
  refine ⟨_, rfl, ?_⟩
  refine hK.out _ _ hP.blk2 (fun hHeld => ?_)
  clear hK K
  refine norm_ (a' := ?_) ?_ ?_
  rotate_left
  · show Act.put _ (some 160) _ = _
    simp only [Act.put, List.setIfInBounds_toArray, List.set_cons_zero, List.set_cons_succ, i64_w, i32_w]
    rfl
  clear hP
  refine pure_ (i := 4) (N := (some 162)) (v := ?_) (a' := ?_) #[true, true, true, true, true, false, false] rfl rfl (by kernel_rfl) (fun _ _ _ h => h) (Or.inl ⟨by rfl, ?_⟩) ?_ ?_
  rotate_left
  · intro w'
    go_simp
    with_reducible rfl
  rotate_left
  · simp only [Act.put, List.setIfInBounds_toArray, List.set_cons_zero, List.set_cons_succ, i64_w, i32_w]
    rfl
  have HP4 := Lib.hid (show Hp w0 w3 (ABlk (w.heap.size + 2) (.cells #[.int .i64 0, .int .i64 0, .int .i64 0, .int .i64 0, .int .i64 0, .string ⟨#[]⟩, .bool false, .int .i64 0, .int .i64 0, .slice none 0 0, .slice none 0 0] 58) :: ABlk w.heap.size (.cells #[.int .i64 a.vis, .int .i64 a.ret, .int .i64 a.del, .int .i64 a.win, .int .i64 a.max, .string a.dead, .bool a.fifo, .int .i64 now, .int .i64 next, .slice none 0 0, .slice A2 n2 c2'] 58) :: AQu qb (qPurge σ) T :: _) from HP3.out)
  have HWW := Lib.hid (HP4.out.set11 (.int .i64 a.vis) (.int .i64 a.ret) (.int .i64 a.del) (.int .i64 a.win) (.int .i64 a.max) (.string a.dead) (.bool a.fifo) (.int .i64 now) (.int .i64 next) (.slice none 0 0) (.slice A2 n2 c2'))
  obtain ⟨z0, z1, z2, z3, z4, z5, z6, z7, z8, z9, z10, zf⟩ := blk11 HP4.out.blk0
  refine one_ (i := 5) (N := none) #[true, true, true, true, true, true, false] rfl rfl (by kernel_rfl) (by decide) (fun K hK => ?_)
  refine skip_ (w1 := ?_) (by rfl) rfl ?_ ?_
  rotate_left
  · go_simp
    rfl
  refine hK.out _ _ (HWW.out.blk1) (fun hHeld => ?_)
  clear hK K
  generalize (((((((((((w3.setCell ⟨w.heap.size + 2, 0, none⟩ (.int .i64 a.vis)).setCell ⟨w.heap.size + 2, 1, none⟩ (.int .i64 a.ret)).setCell ⟨w.heap.size + 2, 2, none⟩ (.int .i64 a.del)).setCell ⟨w.heap.size + 2, 3, none⟩ (.int .i64 a.win)).setCell ⟨w.heap.size + 2, 4, none⟩ (.int .i64 a.max)).setCell ⟨w.heap.size + 2, 5, none⟩ (.string a.dead)).setCell ⟨w.heap.size + 2, 6, none⟩ (.bool a.fifo)).setCell ⟨w.heap.size + 2, 7, none⟩ (.int .i64 now)).setCell ⟨w.heap.size + 2, 8, none⟩ (.int .i64 next)).setCell ⟨w.heap.size + 2, 9, none⟩ (.slice none 0 0)).setCell ⟨w.heap.size + 2, 10, none⟩ (.slice A2 n2 c2')) = W at *
  refine pure_ (i := 6) (N := (some 7)) (v := ?_) (a' := ?_) #[true, true, true, true, true, true, true] rfl rfl (by kernel_rfl) (fun _ _ _ h => h) (Or.inl ⟨by rfl, ?_⟩) ?_ ?_
  rotate_left
  · intro w'
    go_simp
    with_reducible rfl
  rotate_left
  · simp only [Act.put, List.setIfInBounds_toArray, List.set_cons_zero, List.set_cons_succ, i64_w, i32_w]
    rfl
  refine done_ (by kernel_rfl) ?_
  go_wp2_with fail
  have hW := HWW.out
  obtain ⟨j0, j1, j2, j3, j4, j5, j6, j7, j8, j9, j10, _⟩ := blk11 hW.blk0
  exact bodyPost_ret (v := .tuple #[.agg #[.int .i64 a.vis, .int .i64 a.ret, .int .i64 a.del, .int .i64 a.win, .int .i64 a.max, .string a.dead, .bool a.fifo, .int .i64 now, .int .i64 next, .slice none 0 0, .slice A2 n2 c2'], .bool ((sl : Int) == (n : Int))]) (by simp [results, Tryz.results22, go_sem, j0, j1, j2, j3, j4, j5, j6, j7, j8, j9, j10]) rfl ⟨((sl : Int) == (n : Int)), none, 0, 0, A2, n2, c2', fun e => by rw [HSS.out, HSL.out, e]; simp, rfl, (Hp.fresh (hW.tail.tail.up2.tail.up2.swap.up2.tail.swap) (Below.refl _ _) (Kd.R_nil _ _ _ _ _))⟩
end
end Go.Proofs.YtoclcmnphdgfpaaGreatDoor
set_option linter.unusedVariables false
set_option linter.unusedSimpArgs false
namespace Go.Proofs.YtoclcmnphdgfpaaGreatDoor
open Go.RowKit Go.Maps Go.Proofs.YtoclcmnphdgfpaaGreatDoorW.PrintWords Go.Proofs.YtoclcmnphdgfpaaGreatDoorW.PrintLast
section
variable {w0 w : World} {σ ρ : Qs} {Ps : List Asn} {qb T T' : Nat}
theorem Hp.set7 {g : Nat} {z0 z1 z2 z3 z4 z5 z6 z7 z8 z9 z10 : Value} (h : Hp w0 w (ABlk g (.cells #[z0, z1, z2, z3, z4, z5, z6, z7, z8, z9, z10] 58 (0, 0)) :: Ps)) (x0 x1 x2 x3 x4 x5 x6 : Value) :
    Hp w0 (((((((w.setCell ⟨g, 0, none⟩ x0).setCell ⟨g, 1, none⟩ x1).setCell ⟨g, 2, none⟩ x2).setCell ⟨g, 3, none⟩ x3).setCell ⟨g, 4, none⟩ x4).setCell ⟨g, 5, none⟩ x5).setCell ⟨g, 6, none⟩ x6) (ABlk g (.cells #[x0, x1, x2, x3, x4, x5, x6, z7, z8, z9, z10] 58 (0, 0)) :: Ps) := by
  have h0 : Hp w0 _ (ABlk g (.cells #[x0, z1, z2, z3, z4, z5, z6, z7, z8, z9, z10] 58 (0, 0)) :: Ps) := h.setBlk 0 x0
  have h1 : Hp w0 _ (ABlk g (.cells #[x0, x1, z2, z3, z4, z5, z6, z7, z8, z9, z10] 58 (0, 0)) :: Ps) := h0.setBlk 1 x1
  have h2 : Hp w0 _ (ABlk g (.cells #[x0, x1, x2, z3, z4, z5, z6, z7, z8, z9, z10] 58 (0, 0)) :: Ps) := h1.setBlk 2 x2
  have h3 : Hp w0 _ (ABlk g (.cells #[x0, x1, x2, x3, z4, z5, z6, z7, z8, z9, z10] 58 (0, 0)) :: Ps) := h2.setBlk 3 x3
  have h4 : Hp w0 _ (ABlk g (.cells #[x0, x1, x2, x3, x4, z5, z6, z7, z8, z9, z10] 58 (0, 0)) :: Ps) := h3.setBlk 4 x4
  have h5 : Hp w0 _ (ABlk g (.cells #[x0, x1, x2, x3, x4, x5, z6, z7, z8, z9, z10] 58 (0, 0)) :: Ps) := h4.setBlk 5 x5
  exact h5.setBlk 6 x6
set_option maxHeartbeats 1600000 in
set_option maxRecDepth 100000 in
theorem Hp.does6 {A A2 : Option Addr} {n c n2 c2' : Nat} (h : Hp w0 w (ADm (.slice A n c) ρ.l :: AKy (.slice A2 n2 c2') ρ.k :: AQu qb σ T :: Ps)) (hi : QInv ρ T') (hrec : RecOk w0 T) (hT6 : T < 1000000) (hT7 : T' ≤ 1000000) (num num2 : Int) (body group key rec : ByteArray) (qa : QA) (hgs : group.size ≤ maxLen) (hks : key.size ≤ maxLen) :
    Calls Tryz.prog 22 #[.pointer (some ⟨qb, 0, none⟩), ρ.val (.slice A n c) (.slice A2 n2 c2'), opVal 6 num num2 body group key rec qa] w fun e w' => ∃ b A' n' c' B' m' d', (σ = ρ → b = true) ∧ e = .returned (.tuple #[(qSet ρ qa).val (.slice A' n' c') (.slice B' m' d'), .bool b]) ∧ Hp w0 w' (ADm (.slice A' n' c') (qSet ρ qa).l :: AKy (.slice B' m' d') (qSet ρ qa).k :: AQu qb (qSet σ qa) T :: Ps) := by
  have hqt := fun (w0 w : World) (Ps : List Asn) (h : Hp w0 w (AQu qb σ T :: Ps)) => h.quSet qa
  unfold QA.val QA.cells at hqt
  have HQT := Lib.hid hqt
  clear hqt
  obtain ⟨er, her⟩ : ∃ er, er = qSetE σ qa := ⟨_, rfl⟩
  have HER := Lib.hid her
  clear her
  have hla := fun (w1 : World) => lawAttr_any qa w1
  have hrr := fun (w1 : World) => refRight_any qa w1
  unfold QA.val QA.cells at hla hrr
  have HLA := Lib.hid hla
  have HRR := Lib.hid hrr
  clear hla hrr
  obtain ⟨a, now, next, l, k⟩ := ρ
  have HI := Lib.hid hi
  have HB := Lib.hid (h.alloc (.cells #[.int .i64 a.vis, .int .i64 a.ret, .int .i64 a.del, .int .i64 a.win, .int .i64 a.max, .string a.dead, .bool a.fifo, .int .i64 now, .int .i64 next, .slice A n c, .slice A2 n2 c2'] 58))
  have HO := Lib.hid (HB.out.alloc (.cells #[.int .i64 6, .int .i64 num, .int .i64 num2, .string body, .string group, .string key, .string rec, .int .i64 qa.vis, .int .i64 qa.ret, .int .i64 qa.del, .int .i64 qa.win, .int .i64 qa.max, .string qa.dead, .bool qa.fifo] 52))
  have HZ := Lib.hid (HO.out.alloc (.cells #[.int .i64 0, .int .i64 0, .int .i64 0, .int .i64 0, .int .i64 0, .string ⟨#[]⟩, .bool false, .int .i64 0, .int .i64 0, .slice none 0 0, .slice none 0 0] 58))
  have hsz1 : (w.alloc (.cells #[.int .i64 a.vis, .int .i64 a.ret, .int .i64 a.del, .int .i64 a.win, .int .i64 a.max, .string a.dead, .bool a.fifo, .int .i64 now, .int .i64 next, .slice A n c, .slice A2 n2 c2'] 58)).heap.size = w.heap.size + 1 := by simp
  have hsz2 : ((w.alloc (.cells #[.int .i64 a.vis, .int .i64 a.ret, .int .i64 a.del, .int .i64 a.win, .int .i64 a.max, .string a.dead, .bool a.fifo, .int .i64 now, .int .i64 next, .slice A n c, .slice A2 n2 c2'] 58)).alloc (.cells #[.int .i64 6, .int .i64 num, .int .i64 num2, .string body, .string group, .string key, .string rec, .int .i64 qa.vis, .int .i64 qa.ret, .int .i64 qa.del, .int .i64 qa.win, .int .i64 qa.max, .string qa.dead, .bool qa.fifo] 52)).heap.size = w.heap.size + 2 := by simp
  rw [hsz1, hsz2] at HZ
  rw [show Qs.val ⟨a, now, next, l, k⟩ (.slice A n c) (.slice A2 n2 c2') = .agg #[.int .i64 a.vis, .int .i64 a.ret, .int .i64 a.del, .int .i64 a.win, .int .i64 a.max, .string a.dead, .bool a.fifo, .int .i64 now, .int .i64 next, .slice A n c, .slice A2 n2 c2'] from rfl]
  have H0 := Lib.hid (show Qs.val ⟨a, now, next, l, k⟩ (.slice A n c) (.slice A2 n2 c2') = .agg #[.int .i64 a.vis, .int .i64 a.ret, .int .i64 a.del, .int .i64 a.win, .int .i64 a.max, .string a.dead, .bool a.fifo, .int .i64 now, .int .i64 next, .slice A n c, .slice A2 n2 c2'] from rfl)
  unfold opVal
  clear h hi hsz1 hsz2
  obtain ⟨c0, c1, c2, c3, c4, c5, c6, c7, c8, c9, c10, cf⟩ := blk11 HZ.out.blk2
  obtain ⟨o0, o1, o2, o3, o4, o5, o6, o7, o8, o9, o10, o11, o12, o13⟩ := blk14 HZ.out.blk1
  clear cf
  refine callsHid (fun Post hPost => ?_)
  have HPO := Lib.hid hPost
  clear hPost
  go_enter Tryz.func22, Tryz.ntmps22
  go_wp2_with fail
  refine Calls.mono (HQT.out _ _ _ HZ.out.up5) ?_
  rintro e w2 ⟨rfl, hP⟩
  rw [← HER.out]
  have HP := Lib.hid (hP.swap.up2.up3)
  clear hP c0 c1 c2 c3 c4 c5 c6 c7 c8 c9 c10 o0 o1 o2 o3 o4 o5 o6 o7 o8 o9 o10 o11 o12 o13
  obtain ⟨o0, o1, o2, o3, o4, o5, o6, o7, o8, o9, o10, o11, o12, o13⟩ := blk14 HP.out.blk1
  go_wp2_with fail
  refine Calls.mono (HLA.out w2) ?_
  rintro e w3 ⟨rfl, hB3⟩
  have HP3 := Lib.hid (HP.out.below hB3)
  clear hB3
  go_wp2_with fail
  refine Calls.mono (HRR.out w3) ?_
  rintro e w4 ⟨rfl, hB4⟩
  have HP4 := Lib.hid (HP3.out.below hB4).up2
  clear hB4 o0 o1 o2 o3 o4 o5 o6 o7 o8 o9 o10 o11 o12 o13
  obtain ⟨o0, o1, o2, o3, o4, o5, o6, o7, o8, o9, o10, o11, o12, o13⟩ := blk14 HP4.out.blk2
  obtain ⟨c0, c1, c2, c3, c4, c5, c6, c7, c8, c9, c10, cf⟩ := blk11 HP4.out.blk1
  have hcc : qRight qa = false ∨ (qRight qa = true ∧ (qa.fifo == a.fifo) = false) ∨ (qRight qa = true ∧ (qa.fifo == a.fifo) = true) := by
    cases qRight qa
    · exact .inl rfl
    · cases (qa.fifo == a.fifo)
      · exact .inr (.inl ⟨rfl, rfl⟩)
      · exact .inr (.inr ⟨rfl, rfl⟩)
  rcases hcc with h1 | ⟨h1, h2⟩ | ⟨h1, h2⟩
  case' inl =>
    have HE : Hid (∀ s : Qs, s.a = a → qSet s qa = s ∧ qSetE s qa = 1) := Lib.hid (fun s hs => by unfold qSet qSetE; rw [h1]; exact ⟨rfl, rfl⟩)
    rw [h1]
  case' inr.inl =>
    have HE : Hid (∀ s : Qs, s.a = a → qSet s qa = s ∧ qSetE s qa = 1) := Lib.hid (fun s hs => by unfold qSet qSetE; rw [h1, hs, h2]; exact ⟨rfl, rfl⟩)
    rw [h1]
    obtain ⟨fq, hfq⟩ : ∃ fq, fq = qa.fifo := ⟨_, rfl⟩
    obtain ⟨fa, hfa⟩ : ∃ fa, fa = a.fifo := ⟨_, rfl⟩
    rw [← hfq] at o13
    rw [← hfa] at c6
    rw [← hfq, ← hfa] at h2
    have HF1 := Lib.hid hfq
    have HF2 := Lib.hid hfa
    clear hfq hfa
    obtain rfl : fa = !fq := by cases fa <;> cases fq <;> first | rfl | cases h2
    clear h2
    cases fq
  case inr.inr =>
    have HE : Hid (∀ s : Qs, s.a = a → qSet s qa = { s with a := qa } ∧ qSetE s qa = 0) := Lib.hid (fun s hs => by unfold qSet qSetE; rw [h1, hs, h2]; exact ⟨rfl, rfl⟩)
    rw [h1]
    obtain ⟨fq, hfq⟩ : ∃ fq, fq = qa.fifo := ⟨_, rfl⟩
    obtain ⟨fa, hfa⟩ : ∃ fa, fa = a.fifo := ⟨_, rfl⟩
    rw [← hfq] at o13
    rw [← hfa] at c6
    rw [← hfq, ← hfa] at h2
    have HF1 := Lib.hid hfq
    have HF2 := Lib.hid hfa
    clear hfq hfa
    obtain rfl : fa = fq := by cases fa <;> cases fq <;> first | rfl | cases h2
    clear h1 h2
    cases fa
    all_goals
     go_upto_region 27 with (fail)
     clear o0 o1 o2 o3 o4 o5 o6 o7 o8 o9 o10 o11 o12 o13
     obtain ⟨o0, o1, o2, o3, o4, o5, o6, o7, o8, o9, o10, o11, o12, o13⟩ := blk14 HP4.out.blk2
     go_wp2_with fail
     refine Calls.mono (HLA.out w4) ?_
     rintro e w5 ⟨rfl, hB5⟩
     have HP5 := Lib.hid (HP4.out.below hB5).swap
     clear hB5 c0 c1 c2 c3 c4 c5 c6 c7 c8 c9 c10 o0 o1 o2 o3 o4 o5 o6 o7 o8 o9 o10 o11 o12 o13 cf
     obtain ⟨c0, c1, c2, c3, c4, c5, c6, c7, c8, c9, c10, cf⟩ := blk11 HP5.out.blk0
     have HP7 := Lib.hid (HP5.out.set7 (.int .i64 qa.vis) (.int .i64 qa.ret) (.int .i64 qa.del) (.int .i64 qa.win) (.int .i64 qa.max) (.string qa.dead) (.bool qa.fifo))
     go_upto_region 28 with (fail)
     generalize ((((((w5.setCell ⟨w.heap.size, 0, none⟩ (.int .i64 qa.vis)).setCell ⟨w.heap.size, 1, none⟩ (.int .i64 qa.ret)).setCell ⟨w.heap.size, 2, none⟩ (.int .i64 qa.del)).setCell ⟨w.heap.size, 3, none⟩ (.int .i64 qa.win)).setCell ⟨w.heap.size, 4, none⟩ (.int .i64 qa.max)).setCell ⟨w.heap.size, 5, none⟩ (.string qa.dead)).setCell ⟨w.heap.size, 6, none⟩ (.bool qa.fifo) = W7 at *
     clear c0 c1 c2 c3 c4 c5 c6 c7 c8 c9 c10 cf
     have HP8 := Lib.hid HP7.out.swap
     obtain ⟨t0, t1, t2, t3, t4, t5, t6, t7, t8, t9, t10, _⟩ := blk11 HP8.out.blk1
     obtain ⟨z0, z1, z2, z3, z4, z5, z6, z7, z8, z9, z10, zf⟩ := blk11 HP8.out.blk0
     go_wp2_with fail
     have hW := HP8.out.set11 (.int .i64 qa.vis) (.int .i64 qa.ret) (.int .i64 qa.del) (.int .i64 qa.win) (.int .i64 qa.max) (.string qa.dead) (.bool qa.fifo) (.int .i64 now) (.int .i64 next) (.slice A n c) (.slice A2 n2 c2')
     generalize (((((((((((W7.setCell ⟨w.heap.size + 2, 0, none⟩ (.int .i64 qa.vis)).setCell ⟨w.heap.size + 2, 1, none⟩ (.int .i64 qa.ret)).setCell ⟨w.heap.size + 2, 2, none⟩ (.int .i64 qa.del)).setCell ⟨w.heap.size + 2, 3, none⟩ (.int .i64 qa.win)).setCell ⟨w.heap.size + 2, 4, none⟩ (.int .i64 qa.max)).setCell ⟨w.heap.size + 2, 5, none⟩ (.string qa.dead)).setCell ⟨w.heap.size + 2, 6, none⟩ (.bool qa.fifo)).setCell ⟨w.heap.size + 2, 7, none⟩ (.int .i64 now)).setCell ⟨w.heap.size + 2, 8, none⟩ (.int .i64 next)).setCell ⟨w.heap.size + 2, 9, none⟩ (.slice A n c)).setCell ⟨w.heap.size + 2, 10, none⟩ (.slice A2 n2 c2')) = WW at *
     obtain ⟨j0, j1, j2, j3, j4, j5, j6, j7, j8, j9, j10, _⟩ := blk11 hW.blk0
     exact bodyPost_ret (v := .tuple #[.agg #[.int .i64 qa.vis, .int .i64 qa.ret, .int .i64 qa.del, .int .i64 qa.win, .int .i64 qa.max, .string qa.dead, .bool qa.fifo, .int .i64 now, .int .i64 next, .slice A n c, .slice A2 n2 c2'], .bool (er == 0)]) (by simp [results, Tryz.results22, go_sem, j0, j1, j2, j3, j4, j5, j6, j7, j8, j9, j10]) rfl (HPO.out _ _ ⟨(er == 0), A, n, c, A2, n2, c2', fun e => by rw [HER.out, e, (HE.out ⟨a, now, next, l, k⟩ rfl).2]; rfl, by rw [(HE.out ⟨a, now, next, l, k⟩ rfl).1]; rfl, by rw [(HE.out ⟨a, now, next, l, k⟩ rfl).1]; exact hW.tail.tail.tail.down2⟩)
  all_goals
    clear h1
    try dsimp only [Bool.not_true, Bool.not_false] at c6
    go_upto_region 26 with (fail)
    clear o0 o1 o2 o3 o4 o5 o6 o7 o8 o9 o10 o11 o12 o13 c0 c1 c2 c3 c4 c5 c6 c7 c8 c9 c10
    obtain ⟨c0, c1, c2, c3, c4, c5, c6, c7, c8, c9, c10, cf⟩ := blk11 HP4.out.blk1
    obtain ⟨z0, z1, z2, z3, z4, z5, z6, z7, z8, z9, z10, zf⟩ := blk11 HP4.out.blk0
    go_wp2_with fail
    have hW := HP4.out.set11 (.int .i64 a.vis) (.int .i64 a.ret) (.int .i64 a.del) (.int .i64 a.win) (.int .i64 a.max) (.string a.dead) (.bool a.fifo) (.int .i64 now) (.int .i64 next) (.slice A n c) (.slice A2 n2 c2')
    generalize (((((((((((w4.setCell ⟨w.heap.size + 2, 0, none⟩ (.int .i64 a.vis)).setCell ⟨w.heap.size + 2, 1, none⟩ (.int .i64 a.ret)).setCell ⟨w.heap.size + 2, 2, none⟩ (.int .i64 a.del)).setCell ⟨w.heap.size + 2, 3, none⟩ (.int .i64 a.win)).setCell ⟨w.heap.size + 2, 4, none⟩ (.int .i64 a.max)).setCell ⟨w.heap.size + 2, 5, none⟩ (.string a.dead)).setCell ⟨w.heap.size + 2, 6, none⟩ (.bool a.fifo)).setCell ⟨w.heap.size + 2, 7, none⟩ (.int .i64 now)).setCell ⟨w.heap.size + 2, 8, none⟩ (.int .i64 next)).setCell ⟨w.heap.size + 2, 9, none⟩ (.slice A n c)).setCell ⟨w.heap.size + 2, 10, none⟩ (.slice A2 n2 c2')) = WW at *
    obtain ⟨j0, j1, j2, j3, j4, j5, j6, j7, j8, j9, j10, _⟩ := blk11 hW.blk0
    exact bodyPost_ret (v := .tuple #[.agg #[.int .i64 a.vis, .int .i64 a.ret, .int .i64 a.del, .int .i64 a.win, .int .i64 a.max, .string a.dead, .bool a.fifo, .int .i64 now, .int .i64 next, .slice A n c, .slice A2 n2 c2'], .bool (er == 1)]) (by simp [results, Tryz.results22, go_sem, j0, j1, j2, j3, j4, j5, j6, j7, j8, j9, j10]) rfl (HPO.out _ _ ⟨(er == 1), A, n, c, A2, n2, c2', fun e => by rw [HER.out, e, (HE.out ⟨a, now, next, l, k⟩ rfl).2]; rfl, by rw [(HE.out ⟨a, now, next, l, k⟩ rfl).1]; rfl, by rw [(HE.out ⟨a, now, next, l, k⟩ rfl).1]; exact hW.tail.tail.tail.down2⟩)
end
end Go.Proofs.YtoclcmnphdgfpaaGreatDoor
set_option linter.unusedVariables false
set_option linter.unusedSimpArgs false
namespace Go.Proofs.YtoclcmnphdgfpaaGreatDoor
open Go.RowKit Go.Maps Go.Proofs.YtoclcmnphdgfpaaGreatDoorW.PrintWords Go.Proofs.YtoclcmnphdgfpaaGreatDoorW.PrintLast
section
variable {w0 w : World} {σ ρ : Qs} {Ps : List Asn} {qb T T' : Nat}
set_option maxHeartbeats 1600000 in
set_option maxRecDepth 100000 in
theorem Hp.doesX {A A2 : Option Addr} {n c n2 c2' : Nat} (h : Hp w0 w (ADm (.slice A n c) ρ.l :: AKy (.slice A2 n2 c2') ρ.k :: AQu qb σ T :: Ps)) (hi : QInv ρ T') (hrec : RecOk w0 T) (hT6 : T < 1000000) (hT7 : T' ≤ 1000000) (kind : Int) (hk : kind ≠ 0 ∧ kind ≠ 1 ∧ kind ≠ 2 ∧ kind ≠ 3 ∧ kind ≠ 4 ∧ kind ≠ 5 ∧ kind ≠ 6) (num num2 : Int) (body group key rec : ByteArray) (qa : QA) (hgs : group.size ≤ maxLen) (hks : key.size ≤ maxLen) :
    Calls Tryz.prog 22 #[.pointer (some ⟨qb, 0, none⟩), ρ.val (.slice A n c) (.slice A2 n2 c2'), opVal kind num num2 body group key rec qa] w fun e w' => e = .returned (.tuple #[ρ.val (.slice A n c) (.slice A2 n2 c2'), .bool true]) ∧ Hp w0 w' (ADm (.slice A n c) ρ.l :: AKy (.slice A2 n2 c2') ρ.k :: AQu qb (σ) T :: Ps) := by
  obtain ⟨a, now, next, l, k⟩ := ρ
  have HI := Lib.hid hi
  have HB := Lib.hid (h.alloc (.cells #[.int .i64 a.vis, .int .i64 a.ret, .int .i64 a.del, .int .i64 a.win, .int .i64 a.max, .string a.dead, .bool a.fifo, .int .i64 now, .int .i64 next, .slice A n c, .slice A2 n2 c2'] 58))
  have HO := Lib.hid (HB.out.alloc (.cells #[.int .i64 kind, .int .i64 num, .int .i64 num2, .string body, .string group, .string key, .string rec, .int .i64 qa.vis, .int .i64 qa.ret, .int .i64 qa.del, .int .i64 qa.win, .int .i64 qa.max, .string qa.dead, .bool qa.fifo] 52))
  have HZ := Lib.hid (HO.out.alloc (.cells #[.int .i64 0, .int .i64 0, .int .i64 0, .int .i64 0, .int .i64 0, .string ⟨#[]⟩, .bool false, .int .i64 0, .int .i64 0, .slice none 0 0, .slice none 0 0] 58))
  have hsz1 : (w.alloc (.cells #[.int .i64 a.vis, .int .i64 a.ret, .int .i64 a.del, .int .i64 a.win, .int .i64 a.max, .string a.dead, .bool a.fifo, .int .i64 now, .int .i64 next, .slice A n c, .slice A2 n2 c2'] 58)).heap.size = w.heap.size + 1 := by simp
  have hsz2 : ((w.alloc (.cells #[.int .i64 a.vis, .int .i64 a.ret, .int .i64 a.del, .int .i64 a.win, .int .i64 a.max, .string a.dead, .bool a.fifo, .int .i64 now, .int .i64 next, .slice A n c, .slice A2 n2 c2'] 58)).alloc (.cells #[.int .i64 kind, .int .i64 num, .int .i64 num2, .string body, .string group, .string key, .string rec, .int .i64 qa.vis, .int .i64 qa.ret, .int .i64 qa.del, .int .i64 qa.win, .int .i64 qa.max, .string qa.dead, .bool qa.fifo] 52)).heap.size = w.heap.size + 2 := by simp
  rw [hsz1, hsz2] at HZ
  rw [show Qs.val ⟨a, now, next, l, k⟩ (.slice A n c) (.slice A2 n2 c2') = .agg #[.int .i64 a.vis, .int .i64 a.ret, .int .i64 a.del, .int .i64 a.win, .int .i64 a.max, .string a.dead, .bool a.fifo, .int .i64 now, .int .i64 next, .slice A n c, .slice A2 n2 c2'] from rfl]
  have H0 := Lib.hid (show Qs.val ⟨a, now, next, l, k⟩ (.slice A n c) (.slice A2 n2 c2') = .agg #[.int .i64 a.vis, .int .i64 a.ret, .int .i64 a.del, .int .i64 a.win, .int .i64 a.max, .string a.dead, .bool a.fifo, .int .i64 now, .int .i64 next, .slice A n c, .slice A2 n2 c2'] from rfl)
  unfold opVal
  clear h hi hsz1 hsz2
  obtain ⟨c0, c1, c2, c3, c4, c5, c6, c7, c8, c9, c10, cf⟩ := blk11 HZ.out.blk2
  obtain ⟨o0, o1, o2, o3, o4, o5, o6, o7, o8, o9, o10, o11, o12, o13⟩ := blk14 HZ.out.blk1
  clear cf
  obtain ⟨k0, k1, k2, k3, k4, k5, k6⟩ := hk
  have e0 : (kind == 0) = false := by simpa using k0
  have e1 : (kind == 1) = false := by simpa using k1
  have e2 : (kind == 2) = false := by simpa using k2
  have e3 : (kind == 3) = false := by simpa using k3
  have e4 : (kind == 4) = false := by simpa using k4
  have e5 : (kind == 5) = false := by simpa using k5
  have e6 : (kind == 6) = false := by simpa using k6
  clear k0 k1 k2 k3 k4 k5 k6
  go_enter Tryz.func22, Tryz.ntmps22
  generalize hWe : ((w.alloc (.cells #[.int .i64 a.vis, .int .i64 a.ret, .int .i64 a.del, .int .i64 a.win, .int .i64 a.max, .string a.dead, .bool a.fifo, .int .i64 now, .int .i64 next, .slice A n c, .slice A2 n2 c2'] 58)).alloc (.cells #[.int .i64 kind, .int .i64 num, .int .i64 num2, .string body, .string group, .string key, .string rec, .int .i64 qa.vis, .int .i64 qa.ret, .int .i64 qa.del, .int .i64 qa.win, .int .i64 qa.max, .string qa.dead, .bool qa.fifo] 52)).alloc (.cells #[.int .i64 0, .int .i64 0, .int .i64 0, .int .i64 0, .int .i64 0, .string ⟨#[]⟩, .bool false, .int .i64 0, .int .i64 0, .slice none 0 0, .slice none 0 0] 58) = We at *
  obtain ⟨z0, z1, z2, z3, z4, z5, z6, z7, z8, z9, z10, zf⟩ := blk11 HZ.out.blk0
  go_wp2_with fail
  have hW := HZ.out.set11 (.int .i64 a.vis) (.int .i64 a.ret) (.int .i64 a.del) (.int .i64 a.win) (.int .i64 a.max) (.string a.dead) (.bool a.fifo) (.int .i64 now) (.int .i64 next) (.slice A n c) (.slice A2 n2 c2')
  generalize (((((((((((We.setCell ⟨w.heap.size + 2, 0, none⟩ (.int .i64 a.vis)).setCell ⟨w.heap.size + 2, 1, none⟩ (.int .i64 a.ret)).setCell ⟨w.heap.size + 2, 2, none⟩ (.int .i64 a.del)).setCell ⟨w.heap.size + 2, 3, none⟩ (.int .i64 a.win)).setCell ⟨w.heap.size + 2, 4, none⟩ (.int .i64 a.max)).setCell ⟨w.heap.size + 2, 5, none⟩ (.string a.dead)).setCell ⟨w.heap.size + 2, 6, none⟩ (.bool a.fifo)).setCell ⟨w.heap.size + 2, 7, none⟩ (.int .i64 now)).setCell ⟨w.heap.size + 2, 8, none⟩ (.int .i64 next)).setCell ⟨w.heap.size + 2, 9, none⟩ (.slice A n c)).setCell ⟨w.heap.size + 2, 10, none⟩ (.slice A2 n2 c2')) = WW at *
  obtain ⟨j0, j1, j2, j3, j4, j5, j6, j7, j8, j9, j10, _⟩ := blk11 hW.blk0
  exact bodyPost_ret (v := .tuple #[.agg #[.int .i64 a.vis, .int .i64 a.ret, .int .i64 a.del, .int .i64 a.win, .int .i64 a.max, .string a.dead, .bool a.fifo, .int .i64 now, .int .i64 next, .slice A n c, .slice A2 n2 c2'], .bool true]) (by simp [results, Tryz.results22, go_sem, j0, j1, j2, j3, j4, j5, j6, j7, j8, j9, j10]) rfl ⟨rfl, hW.tail.tail.tail⟩
end
end Go.Proofs.YtoclcmnphdgfpaaGreatDoor
set_option linter.unusedVariables false
set_option linter.unusedSimpArgs false
namespace Go.Proofs.YtoclcmnphdgfpaaGreatDoor
open Go.RowKit Go.Maps Go.Proofs.YtoclcmnphdgfpaaGreatDoorW.PrintWords
section
variable {w0 w : World} {σ ρ : Qs} {Ps : List Asn} {qb T T' : Nat}
theorem Hp.does {A A2 : Option Addr} {n c n2 c2' : Nat} (h : Hp w0 w (ADm (.slice A n c) ρ.l :: AKy (.slice A2 n2 c2') ρ.k :: AQu qb σ T :: Ps)) (hi : QInv ρ T') (hrec : RecOk w0 T) (hT6 : T < 1000000) (hT7 : T' ≤ 1000000) (kind num num2 : Int) (body group key rec : ByteArray) (qa : QA) (hgs : group.size ≤ maxLen) (hks : key.size ≤ maxLen) :
    Calls Tryz.prog 22 #[.pointer (some ⟨qb, 0, none⟩), ρ.val (.slice A n c) (.slice A2 n2 c2'), opVal kind num num2 body group key rec qa] w fun e w' => ∃ b A' n' c' B' m' d', (σ = ρ → b = true) ∧ e = .returned (.tuple #[(qDoes ρ kind num num2 body group key rec qa).val (.slice A' n' c') (.slice B' m' d'), .bool b]) ∧ Hp w0 w' (ADm (.slice A' n' c') (qDoes ρ kind num num2 body group key rec qa).l :: AKy (.slice B' m' d') (qDoes ρ kind num num2 body group key rec qa).k :: AQu qb (qDoes σ kind num num2 body group key rec qa) (T + 1) :: Ps) := by
  have hup : ∀ {v1 v2 : Value} {ρ' σ' : Qs} {w' : World}, Hp w0 w' (ADm v1 ρ'.l :: AKy v2 ρ'.k :: AQu qb σ' T :: Ps) → Hp w0 w' (ADm v1 ρ'.l :: AKy v2 ρ'.k :: AQu qb σ' (T + 1) :: Ps) := fun h => (h.up2.quMono (Nat.le_succ T)).down2
  by_cases h0 : kind = 0
  · subst h0
    refine Calls.mono (h.does0 hi hrec hT6 hT7 num num2 body group key rec qa hgs hks) ?_
    rintro e w' ⟨b, A', n', c', B', m', d', hb, rfl, hP⟩
    exact ⟨b, A', n', c', B', m', d', hb, rfl, hup hP⟩
  by_cases h1 : kind = 1
  · subst h1
    exact h.does1 hi hrec hT6 hT7 num num2 body group key rec qa hgs hks
  by_cases h2 : kind = 2
  · subst h2
    exact h.does2 hi hrec hT6 hT7 num num2 body group key rec qa hgs hks
  by_cases h3 : kind = 3
  · subst h3
    refine Calls.mono (h.does3 hi hrec hT6 hT7 num num2 body group key rec qa hgs hks) ?_
    rintro e w' ⟨b, A', n', c', B', m', d', hb, rfl, hP⟩
    exact ⟨b, A', n', c', B', m', d', hb, rfl, hup hP⟩
  by_cases h4 : kind = 4
  · subst h4
    refine Calls.mono (h.does4 hi hrec hT6 hT7 num num2 body group key rec qa hgs hks) ?_
    rintro e w' ⟨b, A', n', c', B', m', d', hb, rfl, hP⟩
    exact ⟨b, A', n', c', B', m', d', hb, rfl, hup hP⟩
  by_cases h5 : kind = 5
  · subst h5
    refine Calls.mono (h.does5 hi hrec hT6 hT7 num num2 body group key rec qa hgs hks) ?_
    rintro e w' ⟨b, A', n', c', B', m', d', hb, rfl, hP⟩
    exact ⟨b, A', n', c', B', m', d', hb, rfl, hup hP⟩
  by_cases h6 : kind = 6
  · subst h6
    refine Calls.mono (h.does6 hi hrec hT6 hT7 num num2 body group key rec qa hgs hks) ?_
    rintro e w' ⟨b, A', n', c', B', m', d', hb, rfl, hP⟩
    exact ⟨b, A', n', c', B', m', d', hb, rfl, hup hP⟩
  have e : ∀ s, qDoes s kind num num2 body group key rec qa = s := fun s => by
    unfold qDoes
    rw [if_neg h0, if_neg h1, if_neg h2, if_neg h3, if_neg h4, if_neg h5, if_neg h6]
  rw [e, e]
  refine Calls.mono (h.doesX hi hrec hT6 hT7 kind ⟨h0, h1, h2, h3, h4, h5, h6⟩ num num2 body group key rec qa hgs hks) ?_
  rintro e w' ⟨rfl, hP⟩
  exact ⟨true, A, n, c, A2, n2, c2', fun _ => rfl, rfl, hup hP⟩
end
end Go.Proofs.YtoclcmnphdgfpaaGreatDoor
set_option linter.unusedVariables false
set_option linter.unusedSimpArgs false
namespace Go.Proofs.YtoclcmnphdgfpaaGreatDoor
open Go.RowKit Go.Maps Go.Proofs.YtoclcmnphdgfpaaGreatDoorW.PrintWords Go.Proofs.YtoclcmnphdgfpaaGreatDoorW.PrintLast
theorem neqQA_same (a : QA) (W : World) : (Go.binOp .neq 54 (.agg #[.int .i64 a.vis, .int .i64 a.ret, .int .i64 a.del, .int .i64 a.win, .int .i64 a.max, .string a.dead, .bool a.fifo]) (.agg #[.int .i64 a.vis, .int .i64 a.ret, .int .i64 a.del, .int .i64 a.win, .int .i64 a.max, .string a.dead, .bool a.fifo])).run Tryz.prog W = .ok (.bool false) W := by
  have h := eqQA a a W
  rw [run_neq_struct, h, Result.andThen_ok]
  simp
section
variable {w0 w : World} {σ : Qs} {Ps : List Asn} {qb T : Nat}
set_option maxHeartbeats 1600000 in
set_option maxRecDepth 100000 in
theorem Hp.same {A A2 : Option Addr} {n c n2 c2' : Nat} (h : Hp w0 w (ADm (.slice A n c) σ.l :: AKy (.slice A2 n2 c2') σ.k :: AQu qb σ T :: Ps)) (hi : QInv σ T) (hT6 : T ≤ 1000000) :
    Calls Tryz.prog 32 #[.pointer (some ⟨qb, 0, none⟩), σ.val (.slice A n c) (.slice A2 n2 c2')] w fun e w' => e = .returned (.bool true) ∧ Hp w0 w' (ADm (.slice A n c) σ.l :: AKy (.slice A2 n2 c2') σ.k :: AQu qb σ T :: Ps) := by
  have HI := Lib.hid hi
  obtain ⟨a, now, next, l, k⟩ := σ
  have HB := Lib.hid (h.alloc (.cells #[.int .i64 a.vis, .int .i64 a.ret, .int .i64 a.del, .int .i64 a.win, .int .i64 a.max, .string a.dead, .bool a.fifo, .int .i64 now, .int .i64 next, .slice A n c, .slice A2 n2 c2'] 58))
  have HLN := Lib.hid (show n = l.length by have := (Kd.R_reads' h.head).1; rwa [List.length_map] at this)
  rw [show Qs.val ⟨a, now, next, l, k⟩ (.slice A n c) (.slice A2 n2 c2') = .agg #[.int .i64 a.vis, .int .i64 a.ret, .int .i64 a.del, .int .i64 a.win, .int .i64 a.max, .string a.dead, .bool a.fifo, .int .i64 now, .int .i64 next, .slice A n c, .slice A2 n2 c2'] from rfl]
  have hn1 : n ≤ 1024 := by have := HLN.out; have := hi.len; dsimp only at this; omega
  clear h hi
  go_enter Tryz.func32, Tryz.ntmps32
  go_wp2_with fail
  refine Calls.mono (HB.out.up3.quIds hT6) ?_
  rintro e w2 ⟨A5, c5, rfl, hP⟩
  dsimp only at hP
  rw [show (Qs.l ⟨a, now, next, l, k⟩).length = n from HLN.out.symm] at hP ⊢
  have HPd := Lib.hid (hP.below (Below.refl _ _).drew)
  have hne : ((n : Int) != (n : Int)) = false := by simp
  have hne2 : (now != now) = false := by simp
  clear hP
  go_wp2_with fail
  refine start_ (n := 21) (S := fun w' => w'.heap[w.heap.size]? = some (.cells #[.int .i64 a.vis, .int .i64 a.ret, .int .i64 a.del, .int .i64 a.win, .int .i64 a.max, .string a.dead, .bool a.fifo, .int .i64 now, .int .i64 next, .slice A n c, .slice A2 n2 c2'] 58)) (ds := []) #[false, false, false, false, false, false, false, false, false, false, false, false, false, false, false, false, false, false, false, false, false] (by kernel_rfl) rfl rfl (HPd.out.blk2) (fun hHeld => ?_)
  generalize w2.drew = wd at *
  refine pure_ (i := 0) (N := (some 12)) (v := ?_) (a' := ?_) #[true, false, false, false, false, false, false, false, false, false, false, false, false, false, false, false, false, false, false, false, false] rfl rfl (by kernel_rfl) (fun _ _ _ h => h) (Or.inl ⟨by rfl, ?_⟩) ?_ ?_
  rotate_left
  · intro w'
    go_simp
    with_reducible rfl
  rotate_left
  · simp only [Act.put, List.setIfInBounds_toArray, List.set_cons_zero, List.set_cons_succ, i64_w, i32_w]
    rfl
  refine pure_ (i := 1) (N := (some 13)) (v := ?_) (a' := ?_) #[true, true, false, false, false, false, false, false, false, false, false, false, false, false, false, false, false, false, false, false, false] rfl rfl (by kernel_rfl) (fun _ _ _ h => h) (Or.inl ⟨by rfl, ?_⟩) ?_ ?_
  rotate_left
  · intro w'
    go_simp
    with_reducible rfl
  rotate_left
  · simp only [Act.put, List.setIfInBounds_toArray, List.set_cons_zero, List.set_cons_succ, i64_w, i32_w]
    rfl
  refine pure_ (i := 2) (N := (some 14)) (v := ?_) (a' := ?_) #[true, true, true, false, false, false, false, false, false, false, false, false, false, false, false, false, false, false, false, false, false] rfl rfl (by kernel_rfl) (fun _ _ _ h => h) (Or.inl ⟨by rfl, ?_⟩) ?_ ?_
  rotate_left
  · intro w'
    go_simp
    with_reducible rfl
  rotate_left
  · simp only [Act.put, List.setIfInBounds_toArray, List.set_cons_zero, List.set_cons_succ, i64_w, i32_w]
    rfl
  refine take_ (i := 3) (N := (some 15)) (v := ?_) (a' := ?_) #[true, true, true, true, false, false, false, false, false, false, false, false, false, false, false, false, false, false, false, false, false] rfl rfl (by kernel_rfl) (fun _ _ _ h => h) (Or.inl ⟨by rfl, ?_⟩) hHeld ?_ ?_
  rotate_left
  · rintro w' sb
    obtain ⟨f0, f1, f2, f3, f4, f5, f6, f7, f8, f9, f10, _⟩ := blk11 sb
    go_simp
    with_reducible rfl
  rotate_left
  · simp only [Act.put, List.setIfInBounds_toArray, List.set_cons_zero, List.set_cons_succ, i64_w, i32_w]
    rfl
  refine pure_ (i := 4) (N := (some 16)) (v := ?_) (a' := ?_) #[true, true, true, true, true, false, false, false, false, false, false, false, false, false, false, false, false, false, false, false, false] rfl rfl (by kernel_rfl) (fun _ _ _ h => h) (Or.inl ⟨by rfl, ?_⟩) ?_ ?_
  rotate_left
  · intro w'
    go_simp
    with_reducible rfl
  rotate_left
  · simp only [Act.put, List.setIfInBounds_toArray, List.set_cons_zero, List.set_cons_succ, i64_w, i32_w]
    rfl
  refine pure_ (i := 5) (N := (some 17)) (v := ?_) (a' := ?_) #[true, true, true, true, true, true, false, false, false, false, false, false, false, false, false, false, false, false, false, false, false] rfl rfl (by kernel_rfl) (fun _ _ _ h => h) (Or.inl ⟨by rfl, ?_⟩) ?_ ?_
  rotate_left
  · intro w'
    go_simp
    with_reducible rfl
  rotate_left
  · simp only [Act.put, List.setIfInBounds_toArray, List.set_cons_zero, List.set_cons_succ, i64_w, i32_w]
    rfl
  refine pure_ (i := 6) (N := (some 18)) (v := ?_) (a' := ?_) #[true, true, true, true, true, true, true, false, false, false, false, false, false, false, false, false, false, false, false, false, false] rfl rfl (by kernel_rfl) (fun _ _ _ h => h) (Or.inl ⟨by rfl, ?_⟩) ?_ ?_
  rotate_left
  · intro w'
    go_simp
    with_reducible rfl
  rotate_left
  · simp only [Act.put, List.setIfInBounds_toArray, List.set_cons_zero, List.set_cons_succ, i64_w, i32_w]
    rfl
  refine pure_ (i := 7) (N := (some 19)) (v := ?_) (a' := ?_) #[true, true, true, true, true, true, true, true, false, false, false, false, false, false, false, false, false, false, false, false, false] rfl rfl (by kernel_rfl) (fun _ _ _ h => h) (Or.inl ⟨by rfl, ?_⟩) ?_ ?_
  rotate_left
  · intro w'
    go_simp
    with_reducible rfl
  rotate_left
  · simp only [Act.put, List.setIfInBounds_toArray, List.set_cons_zero, List.set_cons_succ, i64_w, i32_w]
    rfl
  refine pure_ (i := 9) (N := (some 21)) (v := ?_) (a' := ?_) #[true, true, true, true, true, true, true, true, false, true, false, false, false, false, false, false, false, false, false, false, false] rfl rfl (by kernel_rfl) (fun _ _ _ h => h) (Or.inl ⟨by rfl, ?_⟩) ?_ ?_
  rotate_left
  · intro w'
    go_simp
    with_reducible rfl
  rotate_left
  · simp only [Act.put, List.setIfInBounds_toArray, List.set_cons_zero, List.set_cons_succ, i64_w, i32_w]
    rfl
  refine take_ (i := 10) (N := (some 22)) (v := ?_) (a' := ?_) #[true, true, true, true, true, true, true, true, false, true, true, false, false, false, false, false, false, false, false, false, false] rfl rfl (by kernel_rfl) (fun _ _ _ h => h) (Or.inl ⟨by rfl, ?_⟩) hHeld ?_ ?_
  rotate_left
  · rintro w' sb
    obtain ⟨f0, f1, f2, f3, f4, f5, f6, f7, f8, f9, f10, _⟩ := blk11 sb
    go_simp
    with_reducible rfl
  rotate_left
  · simp only [Act.put, List.setIfInBounds_toArray, List.set_cons_zero, List.set_cons_succ, i64_w, i32_w]
    rfl
  refine one_ (i := 8) (N := some 20) #[true, true, true, true, true, true, true, true, true, true, true, false, false, false, false, false, false, false, false, false, false] rfl rfl (by kernel_rfl) (by decide) (fun K hK => ?_)
  refine goes_ Tryz.func31 (by kernel_rfl) rfl #[.pointer (some ⟨qb, 0, none⟩)] (by rfl) rfl rfl (by first | rfl | (go_simp; done) | (simp [Act.eval]; done) | (simp [Act.eval]; rfl)) ?_
  refine Calls.mono HPd.out.swap.quNow ?_
  rintro e w3 ⟨rfl, rfl⟩
  refine ⟨_, rfl, ?_⟩
  refine hK.out _ _ HPd.out.blk2 (fun hHeld => ?_)
  clear hK K
  refine norm_ (a' := ?_) ?_ ?_
  rotate_left
  · show Act.put _ (some 20) _ = _
    simp only [Act.put, List.setIfInBounds_toArray, List.set_cons_zero, List.set_cons_succ, i64_w, i32_w]
    rfl
  refine pure_ (i := 11) (N := (some 23)) (v := ?_) (a' := ?_) #[true, true, true, true, true, true, true, true, true, true, true, true, false, false, false, false, false, false, false, false, false] rfl rfl (by kernel_rfl) (fun _ _ _ h => h) (Or.inl ⟨by rfl, ?_⟩) ?_ ?_
  rotate_left
  · intro w'
    go_simp
    with_reducible rfl
  rotate_left
  · simp only [Act.put, List.setIfInBounds_toArray, List.set_cons_zero, List.set_cons_succ, i64_w, i32_w]
    rfl
  refine pure_ (i := 12) (N := (some 24)) (v := ?_) (a' := ?_) #[true, true, true, true, true, true, true, true, true, true, true, true, true, false, false, false, false, false, false, false, false] rfl rfl (by kernel_rfl) (fun _ _ _ h => h) (Or.inl ⟨by rfl, ?_⟩) ?_ ?_
  rotate_left
  · intro w'
    go_simp
    with_reducible rfl
  rotate_left
  · simp only [Act.put, List.setIfInBounds_toArray, List.set_cons_zero, List.set_cons_succ, i64_w, i32_w]
    rfl
  refine pure_ (i := 13) (N := (some 25)) (v := ?_) (a' := ?_) #[true, true, true, true, true, true, true, true, true, true, true, true, true, true, false, false, false, false, false, false, false] rfl rfl (by kernel_rfl) (fun _ _ _ h => h) (Or.inl ⟨by rfl, ?_⟩) ?_ ?_
  rotate_left
  · intro w'
    go_simp
    with_reducible rfl
  rotate_left
  · simp only [Act.put, List.setIfInBounds_toArray, List.set_cons_zero, List.set_cons_succ, i64_w, i32_w]
    rfl
  refine pure_ (i := 14) (N := (some 26)) (v := ?_) (a' := ?_) #[true, true, true, true, true, true, true, true, true, true, true, true, true, true, true, false, false, false, false, false, false] rfl rfl (by kernel_rfl) (fun _ _ _ h => h) (Or.inl ⟨by rfl, ?_⟩) ?_ ?_
  rotate_left
  · intro w'
    go_simp
    with_reducible rfl
  rotate_left
  · simp only [Act.put, List.setIfInBounds_toArray, List.set_cons_zero, List.set_cons_succ, i64_w, i32_w]
    rfl
  refine pure_ (i := 17) (N := (some 29)) (v := ?_) (a' := ?_) #[true, true, true, true, true, true, true, true, true, true, true, true, true, true, true, false, false, true, false, false, false] rfl rfl (by kernel_rfl) (fun _ _ _ h => h) (Or.inl ⟨by rfl, ?_⟩) ?_ ?_
  rotate_left
  · intro w'
    go_simp
    with_reducible rfl
  rotate_left
  · simp only [Act.put, List.setIfInBounds_toArray, List.set_cons_zero, List.set_cons_succ, i64_w, i32_w]
    rfl
  refine take_ (i := 18) (N := (some 30)) (v := ?_) (a' := ?_) #[true, true, true, true, true, true, true, true, true, true, true, true, true, true, true, false, false, true, true, false, false] rfl rfl (by kernel_rfl) (fun _ _ _ h => h) (Or.inl ⟨by rfl, ?_⟩) hHeld ?_ ?_
  rotate_left
  · rintro w' sb
    obtain ⟨f0, f1, f2, f3, f4, f5, f6, f7, f8, f9, f10, _⟩ := blk11 sb
    go_simp
    with_reducible rfl
  rotate_left
  · simp only [Act.put, List.setIfInBounds_toArray, List.set_cons_zero, List.set_cons_succ, i64_w, i32_w]
    rfl
  refine one_ (i := 15) (N := some 27) #[true, true, true, true, true, true, true, true, true, true, true, true, true, true, true, true, false, true, true, false, false] rfl rfl (by kernel_rfl) (by decide) (fun K hK => ?_)
  refine goes_ Tryz.func27 (by kernel_rfl) rfl #[.pointer (some ⟨qb, 0, none⟩)] (by rfl) rfl rfl (by first | rfl | (go_simp; done) | (simp [Act.eval]; done) | (simp [Act.eval]; rfl)) ?_
  refine Calls.mono HPd.out.swap.quAttr ?_
  rintro e w4 ⟨rfl, hP4⟩
  rw [show (Qs.a ⟨a, now, next, l, k⟩).val = (.agg #[.int .i64 a.vis, .int .i64 a.ret, .int .i64 a.del, .int .i64 a.win, .int .i64 a.max, .string a.dead, .bool a.fifo]) from rfl]
  have HP4 := Lib.hid hP4.swap
  refine ⟨_, rfl, ?_⟩
  refine hK.out _ _ HP4.out.blk2 (fun hHeld => ?_)
  clear hK K
  refine norm_ (a' := ?_) ?_ ?_
  rotate_left
  · show Act.put _ (some 27) _ = _
    simp only [Act.put, List.setIfInBounds_toArray, List.set_cons_zero, List.set_cons_succ, i64_w, i32_w]
    rfl
  clear hP4
  refine one_ (i := 16) (N := some 28) #[true, true, true, true, true, true, true, true, true, true, true, true, true, true, true, true, true, true, true, false, false] rfl rfl (by kernel_rfl) (by decide) (fun K hK => ?_)
  refine goes_ Tryz.func24 (by kernel_rfl) rfl #[(.agg #[.int .i64 a.vis, .int .i64 a.ret, .int .i64 a.del, .int .i64 a.win, .int .i64 a.max, .string a.dead, .bool a.fifo])] (by rfl) rfl rfl (by first | rfl | (go_simp; done) | (simp [Act.eval]; done) | (simp [Act.eval]; rfl)) ?_
  refine Calls.mono (lawAttr_any a w4) ?_
  rintro e w5 ⟨rfl, hB5⟩
  rw [show a.val = (.agg #[.int .i64 a.vis, .int .i64 a.ret, .int .i64 a.del, .int .i64 a.win, .int .i64 a.max, .string a.dead, .bool a.fifo]) from rfl]
  have HP5 := Lib.hid (HP4.out.below hB5)
  refine ⟨_, rfl, ?_⟩
  refine hK.out _ _ HP5.out.blk2 (fun hHeld => ?_)
  clear hK K
  refine norm_ (a' := ?_) ?_ ?_
  rotate_left
  · show Act.put _ (some 28) _ = _
    simp only [Act.put, List.setIfInBounds_toArray, List.set_cons_zero, List.set_cons_succ, i64_w, i32_w]
    rfl
  clear hB5
  have hnq := neqQA_same a
  refine pure_ (i := 19) (N := (some 31)) (v := ?_) (a' := ?_) #[true, true, true, true, true, true, true, true, true, true, true, true, true, true, true, true, true, true, true, true, false] rfl rfl (by kernel_rfl) (fun _ _ _ h => h) (Or.inl ⟨by rfl, ?_⟩) ?_ ?_
  rotate_left
  · intro w'
    go_simp
    with_reducible rfl
  rotate_left
  · simp only [Act.put, List.setIfInBounds_toArray, List.set_cons_zero, List.set_cons_succ, i64_w, i32_w]
    rfl
  refine pure_ (i := 20) (N := (some 32)) (v := ?_) (a' := ?_) #[true, true, true, true, true, true, true, true, true, true, true, true, true, true, true, true, true, true, true, true, true] rfl rfl (by kernel_rfl) (fun _ _ _ h => h) (Or.inl ⟨by rfl, ?_⟩) ?_ ?_
  rotate_left
  · intro w'
    go_simp
    with_reducible rfl
  rotate_left
  · simp only [Act.put, List.setIfInBounds_toArray, List.set_cons_zero, List.set_cons_succ, i64_w, i32_w]
    rfl
  refine done_ (by kernel_rfl) ?_
  have HMS := Lib.hid (show ∀ m ∈ l, (0 : Int) < m.id ∧ m.id ≤ 1099511627776 from fun m hm => by
    have h1 := HI.out.ids m hm
    have h2 := HI.out.nxt
    dsimp only at h1 h2
    omega)
  clear hnq hne hne2 hHeld
  have HPe := Lib.hid HP5.out
  obtain ⟨c0, c1, c2, c3, c4, c5, c6, c7, c8, c9, c10, cf⟩ := blk11 HPe.out.blk2
  clear cf
  go_wp2_with fail
  clear c0 c1 c2 c3 c4 c5 c6 c7 c8 c9 c10
  go_loopw [36] (fun i wr => ∃ j : Nat, i = .int .i64 j ∧ j ≤ n ∧ Hp w0 wr (AInt (.slice A5 n c5) (l.map (·.id)) :: AQu qb ⟨a, now, next, l, k⟩ T :: ABlk w.heap.size (.cells #[.int .i64 a.vis, .int .i64 a.ret, .int .i64 a.del, .int .i64 a.win, .int .i64 a.max, .string a.dead, .bool a.fifo, .int .i64 now, .int .i64 next, .slice A n c, .slice A2 n2 c2'] 58) :: ADm (.slice A n c) l :: AKy (.slice A2 n2 c2') k :: Ps)) (fun i _ => n - (intOf i).toNat)
  case atStart => exact ⟨0, rfl, Nat.zero_le _, HPe.out⟩
  case round =>
    obtain ⟨j, rfl, hj, hQ⟩ := hrel
    have HQ := Lib.hid hQ
    clear hQ
    by_cases hjn : j < n
    case pos =>
      have i0 : (0 : Int) ≤ (j : Int) := by omega
      have i1 : (j : Int) < (n : Int) := by omega
      obtain ⟨m, hm⟩ : ∃ m, l[j]? = some m := ⟨l[j]'(by have := HLN.out; omega), List.getElem?_eq_getElem _⟩
      have hml := mem_at hm
      have hLs := qLs_of HI.out hml
      have hwf : (Lit.int .i64 m.id).wf = true := wf_id (by have := HMS.out m hml; omega)
      obtain ⟨ad, _, _, rfl, _⟩ := C_nth (Kd.R_reads' HQ.out.tail.tail.tail.head).2.2 j (by rw [List.length_map]; have := HLN.out; omega)
      obtain ⟨e0, e1, e2, e3, e4, e5, e6⟩ := HQ.out.tail.tail.tail.dmRow hm
      obtain ⟨tm, htm⟩ : ∃ tm, tm = m.time := ⟨_, rfl⟩
      rw [← htm] at e3
      have HA := Lib.hid (HQ.out.alloc (.cells #[.int .i64 m.id, .int .i64 m.sent, .int .i64 m.count, .int .i64 tm, .bool m.leased, .string m.body, .string m.group] 111))
      obtain ⟨ad5, x, rfl, hx, g0⟩ := C_nth_int (n := l.length) (by have h2 := (Kd.R_reads' HA.out.tail.head).2.2; rwa [List.length_map] at h2) j (by have := HLN.out; omega)
      obtain rfl : m.id = x := by rw [List.getElem?_map, hm] at hx; exact Option.some.inj hx
      obtain ⟨mb, hmb⟩ : ∃ mb, mb = wr.heap.size := ⟨_, rfl⟩
      have hn1 : (m.id != m.id) = false := by simp
      have HTM := Lib.hid htm
      have HLS := Lib.hid hLs
      have HM := Lib.hid hm
      clear hm hml hx htm hLs
      go_upto_region 7 with (fail)
      rw [← hmb] at HA ⊢
      generalize wr.alloc (.cells #[.int .i64 m.id, .int .i64 m.sent, .int .i64 m.count, .int .i64 tm, .bool m.leased, .string m.body, .string m.group] 111) = W at *
      clear e0 e1 e2 e3 e4 e5 e6 hmb
      obtain ⟨b0, b1, b2, b3, b4, b5, b6, bf⟩ := blk7 HA.out.blk0
      clear bf
      go_wp2_with fail
      refine Calls.mono (HA.out.up2.quLeased m.id hwf) ?_
      rintro e w9 ⟨rfl, rfl⟩
      rw [HLS.out]
      cases hl : m.leased
      case' false =>
        rw [hl] at b4
        dsimp only
        rw [if_neg (by decide)]
        have hz : ((0 : Int) != 0) = false := rfl
        clear hl
      case' true =>
        have ht2 : tm = m.till := by rw [HTM.out]; unfold Msg.time; rw [hl]; rfl
        rw [hl] at b4
        dsimp only
        rw [if_pos rfl]
        subst ht2
        have hz : (m.till != m.till) = false := by simp
        clear hl
      all_goals
        go_wp2_with fail
        go_quiet (fail)
        have HQ2 := Lib.hid ((HA.out.tail).below (pw_below_drewN (Below.refl _ _) nq))
        clear b0 b1 b2 b3 b4 b5 b6 g0
        go_wp2_with fail
        refine ⟨⟨j + 1, by simp, by omega, HQ2.out⟩, ?_⟩
        simp [intOf]
        omega
    case neg =>
      have hj' : j = n := by omega
      subst hj'
      go_wp2_with fail
      go_ret
      exact ⟨rfl, HQ.out.tail.swap.tail.down2⟩
end
end Go.Proofs.YtoclcmnphdgfpaaGreatDoor
