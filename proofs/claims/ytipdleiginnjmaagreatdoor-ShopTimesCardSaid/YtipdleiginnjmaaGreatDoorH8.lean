/- Put together: queue: Send, where a message comes. · queue: ended. · queue: Tick. · queue: Copy; Send as a whole. -/
import Derived.Test.YtipdleiginnjmaaGreatDoorH7
import Derived.IntWalk
import Derived.Outline
set_option linter.unusedVariables false
set_option linter.unusedSimpArgs false
namespace Go.Proofs.YtipdleiginnjmaaGreatDoor
open Go.RowKit Go.Maps Go.Proofs.YtipdleiginnjmaaGreatDoorW.PrintWords
section
variable {w0 w : World} {qb T : Nat} {σ : Qs} {Ps : List Asn}
set_option maxHeartbeats 3200000 in
set_option maxRecDepth 100000 in
theorem Hp.sendNew {mb lb tb sb T' : Nat} {ms : List (Int × Bod)} {s : List En} {ti : List It} {r : List (Ent Int)} (hP : Hp w0 w (ABlk qb (quObj σ mb lb tb sb) :: AMp mb ms :: ALn lb s T' :: ATm tb ti :: ALdI sb 4096 r :: Ps)) (hi : QInv σ T) (hr : QRel σ ms s ti r) (hT : T' ≤ T) (hT6 : T < 1000000) (body group key : ByteArray) (delay : Int) (hg : group.size ≤ maxLen) (hk : key.size ≤ maxLen)
    (hmay : qMaySend σ.a body group key delay = true) (hmg : mget σ.k key = none) (hfull : qFull σ key = false) (hml : ¬ 1024 ≤ ms.length) (hc : (key.size = 0) ∨ ((key.size ≠ 0 ∧ ¬ 0 < σ.a.win) ∨ (key.size ≠ 0 ∧ 0 < σ.a.win ∧ ¬ 4096 ≤ r.length))) :
    Calls Tryz.prog 114 #[.pointer (some ⟨qb, 0, none⟩), .string body, .string group, .string key, .int .i64 delay] w fun e w' => e = .returned (.tuple #[.int .i64 σ.next, .int .i64 0]) ∧ Hp w0 w' (AQu qb (qSent σ body group key delay) (T + 1) :: Ps) := by
  have hm1 := may_at σ.a qb body group key delay w (blk_cell hP.blk0 6)
  rw [hmay] at hm1
  have HMAY := Lib.hid hm1
  have HMS := Lib.hid hmay
  have HMG := Lib.hid hmg
  have HFU := Lib.hid hfull
  have q12 : w.cell? ⟨qb, 12, none⟩ = some (.pointer (some ⟨sb, 0, none⟩)) := blk_cell hP.blk0 12
  have HP := Lib.hid hP
  have HI := Lib.hid hi
  have HR := Lib.hid hr
  have hmr := (hr.key hi key).trans hmg
  have HMR := Lib.hid hmr
  have HG := Lib.hid (show ldIGet r key = ((0, 0), false) by unfold ldIGet; rw [hmr])
  have hnx := hi.nxt
  have hnow := hi.now
  have hdb : 0 ≤ (if delay < 0 then σ.a.del else delay) ∧ (if delay < 0 then σ.a.del else delay) ≤ 1048576 := by
    have h1 := hi.right
    unfold qRight at h1
    rw [decide_eq_true_iff] at h1
    have h2 := hmay
    unfold qMaySend at h2
    rw [Bool.and_eq_true] at h2
    have h3 := h2.2
    split at h3
    · rw [decide_eq_true_iff] at h3
      split <;> omega
    · rw [decide_eq_true_iff] at h3
      split <;> omega
  obtain ⟨dl, hdl⟩ : ∃ dl, dl = if delay < 0 then σ.a.del else delay := ⟨_, rfl⟩
  rw [← hdl] at hdb
  have HDL := Lib.hid hdl
  obtain ⟨ml, hmll⟩ : ∃ ml, ml = ms.length := ⟨_, rfl⟩
  obtain ⟨rl, hrl⟩ : ∃ rl, rl = r.length := ⟨_, rfl⟩
  rw [← hmll] at hml
  rw [← hrl] at hc
  have HML := Lib.hid hmll
  have HRL := Lib.hid hrl
  have hmx : ms.length < maxLen := by rw [← hmll]; simp [maxLen]; omega
  have hrx : r.length ≤ 1000000 := by have := hr.rLen; have := hi.klen; omega
  have hwin := hi.right
  unfold qRight at hwin
  rw [decide_eq_true_iff] at hwin
  have hwin := (show 0 ≤ σ.a.win ∧ σ.a.win ≤ 1048576 by omega)
  have hwf : (Lit.int .i64 σ.next).wf = true := wf_id (by omega)
  have HS1 := Lib.hid (show IntKind.i64.wrap (σ.now + dl) = σ.now + dl from IntWalk.i64_in _ (by omega))
  have HS2 := Lib.hid (show IntKind.i64.wrap (σ.now + σ.a.win) = σ.now + σ.a.win from IntWalk.i64_in _ (by omega))
  have hie := isEmpty_size key
  have g1 : ¬ (1024 : Int) ≤ ml := by omega
  clear hP hm1 hmay hmg hmr hfull hmll hrl hml hi hr
  obtain ⟨D, hD⟩ : ∃ D : Bool, D = decide (delay < 0) := ⟨_, rfl⟩
  have hdc : (delay < 0 ∧ dl = σ.a.del) ∨ (¬ delay < 0 ∧ dl = delay) := by
    by_cases h : delay < 0
    · exact .inl ⟨h, by rw [hdl, if_pos h]⟩
    · exact .inr ⟨h, by rw [hdl, if_neg h]⟩
  clear hdl hD D
  have HRN := Lib.hid (fun t => HR.out.sent HI.out (body := body) (group := group) (key := key) (delay := delay) (t := t) HMG.out)
  rw [← HDL.out] at HRN
  have HQ := Lib.hid (HI.out.sendNew HMS.out HMG.out HFU.out)
  obtain ⟨σ', hσ'⟩ : ∃ σ', σ' = qSent σ body group key delay := ⟨_, rfl⟩
  rw [← hσ'] at HRN HQ ⊢
  have HOB := Lib.hid (show quObj σ' mb lb tb sb = quObj { σ with next := σ.next + 1 } mb lb tb sb by rw [hσ']; rfl)
  clear hσ' HDL HMS HFU
  rcases hc with k1 | (⟨k1, k2⟩ | ⟨k1, k2, f2⟩)
  all_goals
    first
      | (rw [decide_eq_true k1] at hie; have hk0 := nil_size k1)
      | rw [decide_eq_false k1] at hie
    first
      | have HKN := Lib.hid (show qKnows σ.a key = false by unfold qKnows; rw [decide_eq_false (by omega)])
      | have HKN := Lib.hid (show qKnows σ.a key = true by unfold qKnows; rw [decide_eq_true (by omega)])
    clear k1
    try have g2 : ¬ (4096 : Int) ≤ rl := by omega
    rcases hdc with ⟨hd, hd2⟩ | ⟨hd, rfl⟩
    all_goals
      first
        | have HD2 := Lib.hid hd2
        | have HD2 := Lib.hid hd
      try clear hd2
      go_enter Tryz.func114, Tryz.ntmps114
      go_wp2_with fail
      refine Calls.mono HMAY.out ?_
      rintro e w2 ⟨rfl, rfl⟩
      go_wp2_with fail
      refine Calls.mono (HP.out.up4.ldIGetC key hk) ?_
      rintro e w3 ⟨rfl, hP3⟩
      rw [HG.out]
      have HP3 := Lib.hid hP3.down4
      obtain ⟨hM, q9, q3, q12', q2, q8, z8⟩ := sendCells HP3.out
      have HM := Lib.hid hM
      try rw [← HD2.out] at q2
      have HPW := Lib.hid (show Hp w0 (w3.setCell ⟨qb, 8, none⟩ (.int .i64 (σ.next + 1))) (ABlk qb (quObj { σ with next := σ.next + 1 } mb lb tb sb) :: AMp mb ms :: ALn lb s T' :: ATm tb ti :: ALdI sb 4096 r :: Ps) from by
        have := HP3.out.setBlk 8 (.int .i64 (σ.next + 1))
        rw [quCells_next] at this
        exact this)
      clear hP3 hM q12
      go_wp2_with (first
        | (refine wpList_len_at (K := KI) (enc := encQ) HM.out (by rfl) (.tmp 51) 107 161 rfl under_qu rfl ?_; rw [← HML.out])
        | (go_at_call 155; refine Calls.mono HP3.out.up4.ldILen ?_; rintro e w' ⟨rfl, rfl⟩; rw [← HRL.out]))
      generalize w3.setCell ⟨qb, 8, none⟩ (.int .i64 (σ.next + 1)) = W at *
      have p9 : W.cell? ⟨qb, 9, none⟩ = some (.map (some mb)) := blk_cell HPW.out.blk0 9
      have p7 : W.cell? ⟨qb, 7, none⟩ = some (.int .i64 σ.now) := blk_cell HPW.out.blk0 7
      clear q9 q3 q12' q2 q8 z8
      go_still_tail 18, (by kernel_rfl)
      change wpList _ _ _ _ _ W.drew
      refine wpList_put_at (K := KI) (enc := encQ) (HPW.out.below (Below.refl _ _).drew).swap.mapUse.1 (by rfl) (.tmp 86) (.tmp 87) (.tmp 100) 107 161 rfl under_qu hmx rfl σ.next (body, (group, (σ.now, (0, IntKind.i64.wrap (σ.now + dl))))) rfl rfl hwf ?_
      intro w6 hM6 hB6
      rw [HS1.out] at hM6
      have hP6 := ((HPW.out.below (Below.refl _ _).drew).swap.mapUse.2 w6 _ hM6 hB6).swap
      have q10 : w6.cell? ⟨qb, 10, none⟩ = some (.pointer (some ⟨lb, 0, none⟩)) := blk_cell hP6.blk0 10
      have HP6 := Lib.hid hP6.up2
      clear hM6 hB6 hP6 p9 p7
      go_wp2_with fail
      refine Calls.mono (HP6.out.lnAdd group σ.next hwf hg (by omega)) ?_
      rintro e w7 ⟨rfl, t, hP7⟩
      rw [lAdd_new (HR.out.newId HI.out)] at hP7
      rw [HR.out.newId HI.out]
      have hP7 := hP7.down2
      have q12 : w7.cell? ⟨qb, 12, none⟩ = some (.pointer (some ⟨sb, 0, none⟩)) := blk_cell hP7.blk0 12
      have q7 : w7.cell? ⟨qb, 7, none⟩ = some (.int .i64 σ.now) := blk_cell hP7.blk0 7
      have q3 : w7.cell? ⟨qb, 3, none⟩ = some (.int .i64 σ.a.win) := blk_cell hP7.blk0 3
      have HP7 := Lib.hid hP7
      clear hP7 q10
      go_wp2_with fail
      have HRN := Lib.hid (HRN.out t)
      rw [HKN.out] at HRN
  all_goals
    first
      | (go_ret2
         exact ⟨rfl, Hp.quShut' (σ := σ') (by
           rw [HOB.out]
           exact HP7.out) HQ.out (by simpa using HRN.out) (by omega)⟩)
      | (go_still_tail 16, (by kernel_rfl)
         change wpList _ _ _ _ _ w7.drew
         have HP8 := Lib.hid (HP7.out.below (Below.refl _ _).drew).up4
         generalize w7.drew = wd at *
         go_wp2_with fail
         rw [HS2.out]
         refine Calls.mono (HP8.out.ldIPut key σ.next (σ.now + σ.a.win) hk hrx) ?_
         rintro e w9 ⟨rfl, hP9⟩
         have hmp : mayPut 4096 r key = true := by
           unfold mayPut
           rw [decide_eq_true (by have := HRL.out; omega)]
           simp
         rw [hmp, if_pos rfl] at hP9
         rw [hmp, if_pos rfl]
         have HP9 := Lib.hid hP9.down4
         clear hP9 hmp
         go_wp2_with fail
         go_ret2
         exact ⟨rfl, Hp.quShut' (σ := σ') (by
           rw [HOB.out]
           exact HP9.out) HQ.out (by simpa using HRN.out) (by omega)⟩)
end
end Go.Proofs.YtipdleiginnjmaaGreatDoor
namespace Go.Proofs.YtipdleiginnjmaaGreatDoor
open Go.RowKit Go.Maps Go.Proofs.YtipdleiginnjmaaGreatDoorW.PrintWords
section
variable {w0 w : World} {qb T : Nat} {σ : Qs} {Ps : List Asn}
def KLt : Kd Lt := Kd.pair (Kd.int .i64) (Kd.pair (Kd.int .i64) (Kd.pair Kd.string Kd.string))
theorem KLt_of (w : World) (base : Nat) (ok : Nat → Prop) (x : Lt) : KLt.M w base ok x [.int .i64 x.1, .int .i64 x.2.1, .string x.2.2.1, .string x.2.2.2] := ⟨[_], [_, _, _], rfl, rfl, [_], [_, _], rfl, rfl, [_], [_], rfl, rfl, rfl⟩
theorem info_letter : (Tryz.prog.info? 199).map (fun i => (i.zero, i.size, i.bytes)) = some (some (.agg #[.int .i64 0, .int .i64 0, .string ⟨#[]⟩, .string ⟨#[]⟩]), 4, 48) := by kernel_rfl
abbrev ALt (v : Value) (l : List Lt) : Asn := ARow KLt 199 v l
theorem due_len {ms : List (Int × Bod)} {s : List En} {ti : List It} {r : List (Ent Int)} (h : QRel σ ms s ti r) (hi : QInv σ T) (now : Int) : (ti.take (tDue ti now)).length ≤ 1024 := by
  have h1 := h.tLen
  have h2 := hi.len
  rw [List.length_take]
  omega
theorem take_due (ti : List It) (now : Int) : ti.take (tDue ti now) = ti.takeWhile (fun p => decide (p.2 ≤ now)) ∧ ti.drop (tDue ti now) = ti.dropWhile (fun p => decide (p.2 ≤ now)) := by
  unfold tDue
  have e := List.takeWhile_append_dropWhile (p := fun p : It => decide (p.2 ≤ now)) (l := ti)
  exact ⟨(congrArg (List.take _) e.symm).trans List.take_left, (congrArg (List.drop _) e.symm).trans List.drop_left⟩
theorem ended_mem {ds : List Int} {m : Msg} {now : Int} (hm : m ∈ σ.l) (hn : m.id ∉ ds) : m.rest now ∈ (qEnded σ now ds).l := by
  refine List.mem_map.2 ⟨m, List.mem_filter.2 ⟨hm, by simp [hn]⟩, ?_⟩
  rw [if_neg hn]
theorem QInv.atNow (h : QInv σ T) (id : Int) {now : Int} (hn : 0 ≤ now ∧ now ≤ 1099511627776) : QInv (qUp σ id (fun x => { x with at_ := now })) T := by
  refine h.map (f := fun m => if m.id = id then { m with at_ := now } else m) (fun m hm => ?_)
  have h1 := h.cnt m hm
  have h2 := h.at_ m hm
  have h3 := h.till m hm
  split
  · refine ⟨rfl, h1, rfl, ⟨?_, ?_⟩, h3, rfl, rfl⟩ <;> dsimp only <;> omega
  · exact ⟨rfl, h1, rfl, h2, h3, rfl, rfl⟩
theorem dead_all (σ : Qs) (now : Int) : ((σ.l.filter (fun m => m.over now)).filter (fun m => m.dies σ.a now)) = qDead σ now := by
  unfold qDead
  rw [List.filter_filter]
  apply List.filter_congr
  intro m _
  cases h : m.dies σ.a now with
  | false => rfl
  | true => rw [dies_over h]; rfl
set_option maxHeartbeats 3200000 in
set_option maxRecDepth 100000 in
theorem Hp.quEnded (h : Hp w0 w (AQu qb σ T :: Ps)) (hT6 : T ≤ 1000000) :
    Calls Tryz.prog 146 #[.pointer (some ⟨qb, 0, none⟩)] w fun e w' => ∃ A n c, n = (qDead σ σ.now).length ∧ e = .returned (.slice A n c) ∧ Hp w0 w' (ALt (.slice A n c) ((qDead σ σ.now).map Msg.lt) :: AQu qb { σ with l := (σ.l.filter (fun m => !m.dies σ.a σ.now)).map (fun m => m.lapse σ.now) } T :: Ps) := by
  obtain ⟨mb, lb, tb, sb, T', ms, s, ti, r, hi, hr, hT, hP⟩ := h.quOpen'
  have hql := blk_lt hP.blk0
  have q11 : w.cell? ⟨qb, 11, none⟩ = some (.pointer (some ⟨tb, 0, none⟩)) := blk_cell hP.blk0 11
  have q7 : w.cell? ⟨qb, 7, none⟩ = some (.int .i64 σ.now) := blk_cell hP.blk0 7
  have htl : ti.length ≤ 1000000 := by have := hr.tLen; have := hi.len; omega
  have hnow := hi.now
  have hmay : qMay σ σ.now = true := decide_eq_true ⟨Int.le_refl _, hi.now.2⟩
  have HP := Lib.hid hP.up3
  have HI := Lib.hid hi
  have HR := Lib.hid hr
  have HROW := Lib.hid (hP.up3.tmRow)
  have HMAY := Lib.hid hmay
  have hdl := due_len hr hi σ.now
  have htd := take_due ti σ.now
  obtain ⟨due, hdu⟩ : ∃ due, due = ti.take (tDue ti σ.now) := ⟨_, rfl⟩
  obtain ⟨n, hn⟩ : ∃ n, n = due.length := ⟨_, rfl⟩
  rw [← hdu, ← hn] at hdl
  have HDU := Lib.hid hdu.symm
  have HN := Lib.hid hn.symm
  have HD1 := Lib.hid (hdu.trans htd.1)
  have HD2 := Lib.hid htd.2
  have hsh : ∀ (w1 : World) (Qs : List Asn), Hp w0 w1 (ATm tb (ti.drop (tDue ti σ.now)) :: ABlk qb (quObj σ mb lb tb sb) :: AMp mb ms :: ALn lb s T' :: ALdI sb 4096 r :: Qs) → Hp w0 w1 (AQu qb (qEnded σ σ.now []) T :: Qs) := by
    intro w1 Qs h1
    rw [htd.2] at h1
    rw [ended_nil]
    exact Hp.quShut' (σ := qLapsed σ σ.now) h1.down3 (hi.lapsed hmay) (hr.lapsed HROW.out.1) hT
  have HSH := Lib.hid hsh
  have mixed : Tryz.prog.follows .mixedOrders = true := by kernel_rfl
  clear h hP hi hr hmay htd hdu hn hsh
  go_enter Tryz.func146, Tryz.ntmps146
  go_wp2_with fail
  go_region_held3 (fun w' => w'.cell? ⟨qb, 11, none⟩ = some (.pointer (some ⟨tb, 0, none⟩)) ∧ w'.cell? ⟨qb, 7, none⟩ = some (.int .i64 σ.now))
    (first | exact ⟨q11, q7⟩ | exact ⟨r11, r7⟩ | go_keep)
    (first
      | (go_at_call 191; refine Calls.mono ((by first | exact HP.out | exact HP.out.below (Below.refl _ _).drew : Hp w0 _ (ATm tb ti :: _)).tmDue σ.now htl) ?_; rintro e w2 ⟨A, c, rfl, hP2⟩; rw [HDU.out, HN.out] at hP2; rw [HDU.out, HN.out]; have r11 : w2.cell? ⟨qb, 11, none⟩ = some (.pointer (some ⟨tb, 0, none⟩)) := blk_cell hP2.blk2 11; have r7 : w2.cell? ⟨qb, 7, none⟩ = some (.int .i64 σ.now) := blk_cell hP2.blk2 7; have HP2 := Lib.hid (HSH.out w2 _ hP2.rot5); clear hP2))
  go_wp2_with fail
  clear q11 q7 r11 r7
  go_loopw [20, 3] (fun i u3 wr => ∃ j : Nat, i = .int .i64 j ∧ j ≤ n ∧ Hp w0 wr (AInt u3 ((due.take j).map (·.1)) :: AQu qb (qEnded σ σ.now []) T :: AIt (.slice A n c) due :: Ps)) (fun i _ _ => n - (intOf i).toNat)
  case atStart => exact ⟨0, rfl, Nat.zero_le _, HP2.out.fresh (Below.refl _ _) (Kd.R_nil _ _ _ _ _)⟩
  case round =>
    obtain ⟨j, rfl, hj, hQ⟩ := hrel
    have HQ := Lib.hid hQ
    clear hQ
    by_cases hjn : j < n
    · obtain ⟨ad, id, t, rfl, hx, d0, d1⟩ := C_nth_it (Kd.R_reads' HQ.out.tail.tail.head).2.2 j (by have := HN.out; omega)
      have i0 : (0 : Int) ≤ (j : Int) := by omega
      have i1 : (j : Int) < (n : Int) := by omega
      have HTK := Lib.hid (show (due.take (j + 1)).map (·.1) = (due.take j).map (·.1) ++ [id] by rw [List.take_add_one, hx, List.map_append]; rfl)
      have hl : ((due.take j).map (·.1)).length ≤ 1024 := by rw [List.length_map, List.length_take]; omega
      obtain ⟨okr, hR1, hR2, hR3⟩ := ((HQ.out.alloc (.cells #[.int .i64 id, .int .i64 t] 245)).swap).appended
      have HR1 := Lib.hid hR1
      have HR2 := Lib.hid hR2
      have HR3 := Lib.hid hR3
      clear hx hR1 hR2 hR3
      go_wp2_with (at_builtin; refine Kd.R_append (Kd.int .i64) (w0 := wr.alloc (.cells #[.int .i64 id, .int .i64 t] 245)) 0 rfl (.tmp 24) (.tmp 27) 33 3 (.int .i64 0) 8 rfl Tryz.underlying33 info_int rfl (by decide) (by omega) u3 ((due.take j).map (·.1)) id [.int .i64 id] okr (fun _ => False) rfl (congrArg (fun z => Value.slice (some ⟨z, 0, none⟩) 1 1) (show wr.heap.size + 1 = (wr.alloc (.cells #[.int .i64 id, .int .i64 t] 245)).heap.size by simp)) rfl (fun _ hk => hk.elim) HR2.out HR1.out (Below.refl _ _) (Nat.zero_le _) (by omega) ?_; intro v5 w5 hR5 hB5 hg5 _; have HP5 := Lib.hid (HR3.out _ _ _ hR5 hg5).drop1; clear hR5 hB5 hg5)
      go_roundw
      case measure =>
        simp [intOf]
        omega
      case rel => exact ⟨j + 1, by simp, by omega, by rw [HTK.out]; exact HP5.out⟩
    · have hjn' : j = n := by omega
      subst hjn'
      obtain ⟨A3, c3, rfl⟩ := Kd.R_slice HQ.out.head
      have hq := HQ.out
      rw [List.take_of_length_le (by rw [HN.out]; exact Nat.le_refl _)] at hq
      rw [List.take_of_length_le (by rw [HN.out]; exact Nat.le_refl _)]
      have hdm : (due.map (·.1)).length = j := by rw [List.length_map]; exact HN.out
      rw [hdm] at hq
      rw [hdm]
      have HQ2 := Lib.hid hq
      clear hq hdm
      go_wp2_with fail
      refine Calls.mono (HQ2.out.sortI (by omega)) ?_
      rintro e w3 ⟨rfl, hP3⟩
      obtain ⟨ids, hids⟩ : ∃ ids, ids = (due.map (·.1)).mergeSort (fun x y => decide (x ≤ y)) := ⟨_, rfl⟩
      rw [← hids] at hP3
      obtain ⟨ov, hov⟩ : ∃ ov, ov = σ.l.filter (fun m => m.over σ.now) := ⟨_, rfl⟩
      have hio : ids = ov.map (·.id) := by
        rw [hov]
        refine due_ids HR.out HROW.out.1 HI.out (now := σ.now) ?_ ?_
        · rw [hids, ← HD1.out]
          exact List.mergeSort_perm _ _
        · rw [hids]
          refine (List.pairwise_mergeSort (le := fun x y : Int => decide (x ≤ y)) (fun a b c h1 h2 => ?_) (fun a b => ?_) _).imp (fun {a b} hab => by simpa using hab)
          · simp at *; omega
          · simp; omega
      have hil : ids.length = j := by rw [hids, List.length_mergeSort, List.length_map]; exact HN.out
      have hovl : ov.length = j := by rw [← hil, hio, List.length_map]
      have HIO := Lib.hid hio
      have HOV := Lib.hid hov
      have HOL := Lib.hid hovl
      have HP3 := Lib.hid hP3.drop2
      clear hP3 hids hio hov hil hovl
      have HIL := Lib.hid (show ids.length = j by rw [HIO.out, List.length_map]; exact HOL.out)
      have HON := Lib.hid (show (ov.map (·.id)).Nodup by rw [HOV.out]; exact rise_nodup (HI.out.rise.filter _))
      go_wp2_with fail
      go_loopw [34, 6] (fun i u6 wr => ∃ p : Nat, i = .int .i64 p ∧ p ≤ j ∧ Hp w0 wr (ALt u6 (fm ov (fun m => m.dies σ.a σ.now) Msg.lt p) :: AInt (.slice A3 j c3) ids :: AQu qb (qEnded σ σ.now (ids.take p)) T :: Ps)) (fun i _ _ => j - (intOf i).toNat)
      case atStart => exact ⟨0, rfl, Nat.zero_le _, by rw [fm_zero, List.take_zero]; exact HP3.out.fresh (Below.refl _ _) (Kd.R_nil _ _ _ _ _)⟩
      case round =>
        obtain ⟨p, rfl, hp, hQ⟩ := hrel
        have HQ3 := Lib.hid hQ
        clear hQ
        by_cases hpj : p < j
        · obtain ⟨ad, x, rfl, hx, d0⟩ := C_nth_int (Kd.R_reads' HQ3.out.tail.head).2.2 p (by have := HIL.out; omega)
          obtain ⟨mm, hmm, rfl⟩ : ∃ mm, ov[p]? = some mm ∧ mm.id = x := by
            rw [HIO.out, List.getElem?_map] at hx
            exact Option.map_eq_some_iff.1 hx
          have hml := mem_at hmm
          rw [HOV.out] at hml
          obtain ⟨hml2, hov2⟩ := List.mem_filter.1 hml
          have hni : mm.id ∉ ids.take p := by
            rw [HIO.out, ← List.map_take]
            intro hin
            obtain ⟨y, hy, hye⟩ := List.mem_map.1 hin
            exact take_ne HON.out hmm y hy hye
          have i0 : (0 : Int) ≤ (p : Int) := by omega
          have i1 : (p : Int) < (j : Int) := by omega
          have HTK := Lib.hid (show ids.take (p + 1) = ids.take p ++ [mm.id] from take_snoc' hx)
          have hwf := HI.out.wf hT6 hml2
          have HML := Lib.hid hml2
          have HMM := Lib.hid hmm
          have HOVM := Lib.hid (show mm.over σ.now = true from hov2)
          have HNI := Lib.hid hni
          have HFL := Lib.hid (show (fm ov (fun m => m.dies σ.a σ.now) Msg.lt p).length ≤ 1024 by have := fm_len (l := ov) (p := fun m => m.dies σ.a σ.now) (f := Msg.lt) (i := p); omega)
          obtain ⟨mb, lb, tb, sb, T', ms, s, ti, r, hij, hr, hT, hP⟩ := HQ3.out.up2.quOpen'
          have hmj := ended_mem (now := σ.now) hml2 hni
          have q9 : wr.cell? ⟨qb, 9, none⟩ = some (.map (some mb)) := blk_cell hP.blk0 9
          have hql := blk_lt hP.blk0
          have hg := hr.get hij hmj
          rw [rest_id, rest_bod] at hg
          have lk := look_msg (hP.swap.head : (AMp mb ms).pred _ _).2 hwf hg
          unfold encQ Msg.bod at lk
          dsimp only at lk
          have HIJ := Lib.hid hij
          have HR := Lib.hid hr
          have HMJ := Lib.hid hmj
          have hmx : ms.length < maxLen := by have := hr.len; have := hij.len; simp [maxLen]; omega
          have HA0 := Lib.hid (hP.alloc (.cells #[.string mm.body, .string mm.group, .int .i64 mm.sent, .int .i64 mm.count, .int .i64 mm.at_] 161))
          clear hx hmm hml hml2 hov2 hni hij hr hP hmj hg
          go_wp2_with fail
          have b0 := blk_cell HA0.out.blk0 0
          have b1 := blk_cell HA0.out.blk0 1
          have b2 := blk_cell HA0.out.blk0 2
          have b3 := blk_cell HA0.out.blk0 3
          have b4 := blk_cell HA0.out.blk0 4
          have hfz := blk_frozen HA0.out.blk0 4
          have p9 : (wr.alloc (.cells #[.string mm.body, .string mm.group, .int .i64 mm.sent, .int .i64 mm.count, .int .i64 mm.at_] 161)).cell? ⟨qb, 9, none⟩ = some (.map (some mb)) := blk_cell HA0.out.blk1 9
          have p4 : (wr.alloc (.cells #[.string mm.body, .string mm.group, .int .i64 mm.sent, .int .i64 mm.count, .int .i64 mm.at_] 161)).cell? ⟨qb, 4, none⟩ = some (.int .i64 σ.a.max) := blk_cell HA0.out.blk1 4
          have p7 : (wr.alloc (.cells #[.string mm.body, .string mm.group, .int .i64 mm.sent, .int .i64 mm.count, .int .i64 mm.at_] 161)).cell? ⟨qb, 7, none⟩ = some (.int .i64 σ.now) := blk_cell HA0.out.blk1 7
          simp only [List.getElem?_toArray, List.getElem?_cons_zero, List.getElem?_cons_succ] at b0 b1 b2 b3 b4
          generalize wr.alloc (.cells #[.string mm.body, .string mm.group, .int .i64 mm.sent, .int .i64 mm.count, .int .i64 mm.at_] 161) = W at *
          clear lk q9 d0
          have hcase : (0 < σ.a.max ∧ σ.a.max ≤ mm.count) ∨ ((¬ 0 < σ.a.max) ∨ (0 < σ.a.max ∧ ¬ σ.a.max ≤ mm.count)) := by omega
          rcases hcase with ⟨m1, m2⟩ | hnd
          · have HD := Lib.hid (show mm.dies σ.a σ.now = true by unfold Msg.dies; rw [HOVM.out, decide_eq_true ⟨m1, m2⟩]; rfl)
            have HED := Lib.hid (ended_drop HI.out HML.out HNI.out HD.out)
            have HFM := Lib.hid (fm_yes (p := fun m => m.dies σ.a σ.now) (f := Msg.lt) HMM.out HD.out)
            go_quiet (fail)
            have HPd := Lib.hid (HA0.out.below (pw_below_drewN (Below.refl _ _) nq))
            generalize W.drewN nq = wd at *
            have c0 := blk_cell HPd.out.blk0 0
            have c1 := blk_cell HPd.out.blk0 1
            have c3 := blk_cell HPd.out.blk0 3
            simp only [List.getElem?_toArray, List.getElem?_cons_zero, List.getElem?_cons_succ] at c0 c1 c3
            clear b0 b1 b2 b3 b4 hfz p9 p4 p7
            obtain ⟨okr, hR1, hR2, hR3⟩ := HPd.out.up6.appended
            have HR1 := Lib.hid hR1
            have HR2 := Lib.hid hR2
            have HR3 := Lib.hid hR3
            clear hR1 hR2 hR3
            go_wp2_with (at_builtin; refine Kd.R_append KLt (w0 := wd) 0 rfl (.tmp 60) (.tmp 69) 195 199 (.agg #[.int .i64 0, .int .i64 0, .string ⟨#[]⟩, .string ⟨#[]⟩]) 48 rfl Tryz.underlying195 info_letter rfl (by decide) (by omega) u6 (fm ov (fun m => m.dies σ.a σ.now) Msg.lt p) mm.lt [.int .i64 mm.id, .int .i64 mm.count, .string mm.body, .string mm.group] okr (fun _ => False) rfl rfl (KLt_of _ _ _ mm.lt) (fun _ hk => hk.elim) HR2.out HR1.out (Below.refl _ _) (Nat.zero_le _) (by have := HFL.out; omega) ?_; intro v5 w5 hR5 hB5 hg5 _; have HP5 := Lib.hid (Hp.quShut' (σ := qEnded σ σ.now (ids.take p)) (HR3.out _ _ _ hR5 hg5).drop1.rot5 HIJ.out HR.out hT); clear hR5 hB5 hg5)
            refine Calls.mono (HP5.out.quDrop mm.id hwf hT6) ?_
            rintro e w6 ⟨rfl, hP6⟩
            have HP6 := Lib.hid hP6
            clear hP6 c0 c1 c3
            go_wp2_with fail
            refine ⟨⟨p + 1, by simp, by omega, ?_⟩, ?_⟩
            · rw [HFM.out, HTK.out, HED.out]
              exact HP6.out.down2
            · simp [intOf]
              omega
          · have HD := Lib.hid (show mm.dies σ.a σ.now = false by unfold Msg.dies; rw [HOVM.out, decide_eq_false (by omega)]; rfl)
            have HED := Lib.hid (ended_wait HI.out HML.out HNI.out HOVM.out HD.out)
            have HFM := Lib.hid (fm_no (p := fun m => m.dies σ.a σ.now) (f := Msg.lt) HMM.out HD.out)
            have hrs : mm.rest σ.now = { mm with leased := false, till := 0 } := by unfold Msg.rest; rw [if_pos HOVM.out]
            have hmj := HMJ.out
            rw [hrs] at hmj
            have HMJ2 := Lib.hid hmj
            clear hrs hmj
            rcases hnd with m1 | ⟨m1, m2⟩
            all_goals
              go_quiet (fail)
              have HPd := Lib.hid (HA0.out.below (pw_below_drewN (Below.refl _ _) nq))
              generalize W.drewN nq = wd at *
              have c4 := blk_cell HPd.out.blk0 4
              simp only [List.getElem?_toArray, List.getElem?_cons_zero, List.getElem?_cons_succ] at c4
              have hfz2 := blk_frozen HPd.out.blk0 4
              have r7 : wd.cell? ⟨qb, 7, none⟩ = some (.int .i64 σ.now) := blk_cell HPd.out.blk1 7
              have HPs := Lib.hid (show Hp w0 (wd.setCell ⟨wr.heap.size, 4, none⟩ (.int .i64 σ.now)) (ABlk wr.heap.size (.cells #[.string mm.body, .string mm.group, .int .i64 mm.sent, .int .i64 mm.count, .int .i64 σ.now] 161) :: _) from HPd.out.setBlk 4 (.int .i64 σ.now))
              clear b0 b1 b2 b3 b4 hfz p9 p4 p7
              go_wp2_with fail
              generalize wd.setCell ⟨wr.heap.size, 4, none⟩ (.int .i64 σ.now) = ws at *
              have b0 := blk_cell HPs.out.blk0 0
              have b1 := blk_cell HPs.out.blk0 1
              have b2 := blk_cell HPs.out.blk0 2
              have b3 := blk_cell HPs.out.blk0 3
              have b4 := blk_cell HPs.out.blk0 4
              have p9 : ws.cell? ⟨qb, 9, none⟩ = some (.map (some mb)) := blk_cell HPs.out.blk1 9
              simp only [List.getElem?_toArray, List.getElem?_cons_zero, List.getElem?_cons_succ] at b0 b1 b2 b3 b4
              clear c4 hfz2 r7
              go_still_tail 6, (by kernel_rfl)
              change wpList _ _ _ _ _ ws.drew
              have HA := Lib.hid (HPs.out.below (Below.refl _ _).drew)
              refine wpList_put_at (K := KI) (enc := encQ) HA.out.up2.mapUse.1 (by rfl) (.tmp 82) (.tmp 83) (.tmp 84) 107 161 rfl under_qu hmx rfl mm.id (mm.body, (mm.group, (mm.sent, (mm.count, σ.now)))) rfl rfl hwf ?_
              intro w6 hM6 hB6
              have HP6 := Lib.hid (HA.out.up2.mapUse.2 w6 _ hM6 hB6)
              clear b0 b1 b2 b3 b4 p9 hM6 hB6
              go_wp2_with fail
              refine ⟨⟨p + 1, by simp, by omega, ?_⟩, ?_⟩
              · rw [HFM.out, HTK.out, HED.out]
                have hrn := HR.out.up HIJ.out HMJ2.out (f := fun x => { x with at_ := σ.now }) rfl rfl
                have hrn2 : QRel (qUp (qEnded σ σ.now (ids.take p)) mm.id (fun x => { x with at_ := σ.now })) (mput ms mm.id (mm.body, (mm.group, (mm.sent, (mm.count, σ.now))))) s (tDrop ti mm.id) r := hrn
                rw [tDrop_none (((HR.out.lease HIJ.out HMJ2.out).2).1 rfl)] at hrn2
                exact (Hp.quShut' (σ := qUp (qEnded σ σ.now (ids.take p)) mm.id (fun x => { x with at_ := σ.now })) HP6.out.drop1.swap (HIJ.out.atNow mm.id hnow) hrn2 hT).down2
              · simp [intOf]
                omega
        · have hpj' : p = j := by omega
          subst hpj'
          obtain ⟨A9, c9, rfl⟩ := Kd.R_slice HQ3.out.head
          have hq := HQ3.out
          rw [List.take_of_length_le (by rw [HIL.out]; exact Nat.le_refl _), fm_all (by rw [HOL.out]; exact Nat.le_refl _), HOV.out, dead_all] at hq
          rw [fm_all (by rw [HOL.out]; exact Nat.le_refl _), HOV.out, dead_all]
          have hen : qEnded σ σ.now ids = { σ with l := (σ.l.filter (fun m => !m.dies σ.a σ.now)).map (fun m => m.lapse σ.now) } := by
            unfold qEnded
            rw [HIO.out, HOV.out, ended_all HI.out]
          rw [hen, List.length_map] at hq
          rw [List.length_map]
          have HQ4 := Lib.hid hq
          clear hq hen
          go_wp2_with fail
          go_ret
          exact ⟨A9, _, c9, rfl, rfl, HQ4.out.drop1⟩
end
end Go.Proofs.YtipdleiginnjmaaGreatDoor
namespace Go.Proofs.YtipdleiginnjmaaGreatDoor
open Go.RowKit Go.Maps Go.Proofs.YtipdleiginnjmaaGreatDoorW.PrintWords
section
variable {w0 w : World} {qb T : Nat} {σ : Qs} {Ps : List Asn}
theorem quCells_now (σ : Qs) (mb lb tb sb : Nat) (n : Int) : (quCells σ mb lb tb sb).setIfInBounds 7 (.int .i64 n) = quCells { σ with now := n } mb lb tb sb := by
  unfold quCells QA.cells
  simp
def oldB (σ : Qs) (now : Int) (m : Msg) : Bool := decide (m.sent + σ.a.ret ≤ now)
set_option maxHeartbeats 800000 in
set_option maxRecDepth 100000 in
theorem Hp.tckNot (h : Hp w0 w (AQu qb σ T :: Ps)) (now : Int) (hn : qMay σ now = false) :
    Calls Tryz.prog 108 #[.pointer (some ⟨qb, 0, none⟩), .int .i64 now] w fun e w' => e = .returned (.tuple #[.slice none 0 0, .slice none 0 0]) ∧ w = w' := by
  obtain ⟨mb, lb, tb, sb, T', ms, s, ti, r, hi, hr, hT, hP⟩ := h.quOpen'
  have q7 : w.cell? ⟨qb, 7, none⟩ = some (.int .i64 σ.now) := blk_cell hP.blk0 7
  unfold qMay at hn
  rw [decide_eq_false_iff_not] at hn
  have hc : now < σ.now ∨ (¬ now < σ.now ∧ 1099511627776 < now) := by omega
  clear h hP hr hi hn
  rcases hc with h1 | ⟨h1, h2⟩
  all_goals
    go_enter Tryz.func108, Tryz.ntmps108
    go_wp2_with fail
    go_ret2
    exact ⟨rfl, rfl⟩
set_option maxHeartbeats 3200000 in
set_option maxRecDepth 100000 in
theorem Hp.tckDo (h : Hp w0 w (AQu qb σ T :: Ps)) (hT6 : T ≤ 1000000) (now : Int) (hmay : qMay σ now = true) :
    Calls Tryz.prog 108 #[.pointer (some ⟨qb, 0, none⟩), .int .i64 now] w fun e w' => ∃ A1 n1 c1 A2 n2 c2, n1 = (qDead σ now).length ∧ n2 = (qGone σ now).length ∧ e = .returned (.tuple #[.slice A1 n1 c1, .slice A2 n2 c2]) ∧ Hp w0 w' (ALt (.slice A1 n1 c1) ((qDead σ now).map Msg.lt) :: AInt (.slice A2 n2 c2) (qGone σ now) :: AQu qb (qTick σ now) T :: Ps) := by
  obtain ⟨mb, lb, tb, sb, T', ms, s, ti, r, hi, hr, hT, hP⟩ := h.quOpen'
  have hmm := hmay
  unfold qMay at hmm
  rw [decide_eq_true_iff] at hmm
  have g1 : ¬ now < σ.now := by omega
  have g2 : ¬ 1099511627776 < now := by omega
  have q7 : w.cell? ⟨qb, 7, none⟩ = some (.int .i64 σ.now) := blk_cell hP.blk0 7
  have z7 := blk_frozen hP.blk0 7
  have hin : QInv { σ with now := now } T := { hi with now := ⟨by have := hi.now; show 0 ≤ now; omega, hmm.2⟩ }
  have hps := hP.setBlk 7 (.int .i64 now)
  rw [quCells_now] at hps
  have HPS := Lib.hid (Hp.quShut' (σ := { σ with now := now }) hps hin ⟨hr.ms, hr.s, hr.ti, hr.r⟩ hT)
  have HI := Lib.hid hi
  have HTI := Lib.hid (hi.tick hmay)
  have hret := hi.right
  unfold qRight at hret
  rw [decide_eq_true_iff] at hret
  have hret := (show 1 ≤ σ.a.ret ∧ σ.a.ret ≤ 1048576 by omega)
  obtain ⟨dd, hdd⟩ : ∃ dd, dd = qDead σ now := ⟨_, rfl⟩
  obtain ⟨l2, hl2⟩ : ∃ l2, l2 = (σ.l.filter (fun m => !m.dies σ.a now)).map (fun m => m.lapse now) := ⟨_, rfl⟩
  have HDD := Lib.hid hdd
  have HL2 := Lib.hid hl2
  clear h hP hi hr hmay hps hin hdd hl2
  go_enter Tryz.func108, Tryz.ntmps108
  go_wp2_with fail
  refine Calls.mono (HPS.out.quEnded hT6) ?_
  rintro e w2 ⟨A1, n1, c1, hn1, rfl, hP2⟩
  have hn1' : n1 = dd.length := by rw [hn1, HDD.out]; rfl
  have hP2' : Hp w0 w2 (ALt (.slice A1 n1 c1) (dd.map Msg.lt) :: AQu qb { σ with now := now, l := l2 } T :: Ps) := by rw [HDD.out, HL2.out]; exact hP2
  have HN1 := Lib.hid hn1'
  have HP2 := Lib.hid hP2'.swap
  have HI2 := Lib.hid (show QInv { σ with now := now, l := l2 } T from let ⟨_, _, _, _, _, _, _, _, _, h, _⟩ := hP2'.swap.quOpen'; h)
  clear hP2 hP2' hn1 hn1' q7 z7
  go_wp2_with fail
  refine Calls.mono (HP2.out.quIds hT6) ?_
  rintro e w3 ⟨A3, c3, rfl, hP3⟩
  obtain ⟨n, hn⟩ : ∃ n, n = l2.length := ⟨_, rfl⟩
  have hP3 : Hp w0 w3 (AInt (.slice A3 n c3) (l2.map (·.id)) :: AQu qb { σ with now := now, l := l2 } T :: ALt (.slice A1 n1 c1) (dd.map Msg.lt) :: Ps) := by rw [hn]; exact hP3
  rw [← hn]
  have hnl : n ≤ 1024 := by rw [hn]; exact HI2.out.len
  have HN := Lib.hid hn
  have HP3 := Lib.hid hP3
  clear hP3 hn
  go_wp2_with fail
  go_loopw [27, 5] (fun i u5 wr => ∃ j : Nat, i = .int .i64 j ∧ j ≤ n ∧ Hp w0 wr (AInt u5 (fm l2 (oldB σ now) (·.id) j) :: AInt (.slice A3 n c3) (l2.map (·.id)) :: AQu qb { σ with now := now, l := goneRow l2 σ.a now ((l2.map (·.id)).take j) } T :: ALt (.slice A1 n1 c1) (dd.map Msg.lt) :: Ps)) (fun i _ _ => n - (intOf i).toNat)
  case atStart => exact ⟨0, rfl, Nat.zero_le _, by rw [fm_zero, List.take_zero, gone_nil]; exact HP3.out.fresh (Below.refl _ _) (Kd.R_nil _ _ _ _ _)⟩
  case round =>
    obtain ⟨j, rfl, hj, hQ⟩ := hrel
    have HQ := Lib.hid hQ
    clear hQ
    by_cases hjn : j < n
    · obtain ⟨ad, x, rfl, hx, d0⟩ := C_nth_int (Kd.R_reads' HQ.out.tail.head).2.2 j (by rw [List.length_map]; have := HN.out; omega)
      have hx0 := hx
      obtain ⟨m, hm, rfl⟩ : ∃ m, l2[j]? = some m ∧ m.id = x := by
        rw [List.getElem?_map] at hx
        exact Option.map_eq_some_iff.1 hx
      have hml := mem_at hm
      have i0 : (0 : Int) ≤ (j : Int) := by omega
      have i1 : (j : Int) < (n : Int) := by omega
      have HTK := Lib.hid (show (l2.map (·.id)).take (j + 1) = (l2.map (·.id)).take j ++ [m.id] from take_snoc' hx0)
      have hni : m.id ∉ (l2.map (·.id)).take j := by
        rw [← List.map_take]
        intro hin
        obtain ⟨y, hy, hye⟩ := List.mem_map.1 hin
        exact take_ne (rise_nodup HI2.out.rise) hm y hy hye
      have hwf := HI2.out.wf hT6 (m := m) hml
      have hst := HI2.out.sent m hml
      have HU := Lib.hid (show ∀ y ∈ l2, y.id = m.id → y = m from uniq_at HI2.out hml)
      have HM := Lib.hid hm
      have hmg : m ∈ goneRow l2 σ.a now ((l2.map (·.id)).take j) := List.mem_filter.2 ⟨hml, by rw [decide_eq_false hni]; rfl⟩
      have HFL := Lib.hid (show (fm l2 (oldB σ now) (·.id) j).length ≤ 1024 by have := fm_len (l := l2) (p := oldB σ now) (f := fun m => m.id) (i := j); omega)
      obtain ⟨mb, lb, tb, sb, T', ms, s, ti, r, hij, hr, hT, hP⟩ := HQ.out.up2.quOpen'
      have q9 : wr.cell? ⟨qb, 9, none⟩ = some (.map (some mb)) := blk_cell hP.blk0 9
      have q1 : wr.cell? ⟨qb, 1, none⟩ = some (.int .i64 σ.a.ret) := blk_cell hP.blk0 1
      have hMp := (hP.swap.head : (AMp mb ms).pred _ _).2
      have hgt := hr.get hij hmg
      have lk := fun k : Nat => look_msg (w := wr.drewN k) (hMp.move rfl) hwf hgt
      unfold encQ Msg.bod at lk
      dsimp only at lk
      have f2 : ∀ w : World, (Instr.field 161 (.agg #[.string m.body, .string m.group, .int .i64 m.sent, .int .i64 m.count, .int .i64 m.at_]) 2).run Tryz.prog w = .ok (.int .i64 m.sent) w := fun w => by kernel_rfl
      clear hx hx0 hm hml hni hmg hij hr hP hMp hgt
      by_cases hold : m.sent + σ.a.ret ≤ now
      · have HOB := Lib.hid (show oldB σ now m = true from decide_eq_true hold)
        have HGS := Lib.hid (gone_step (now := now) (a := σ.a) (gs := (l2.map (·.id)).take j) HU.out)
        have HOLD := Lib.hid hold
        have hsum : IntKind.i64.wrap (m.sent + σ.a.ret) = m.sent + σ.a.ret := IntWalk.i64_in _ (by omega)
        go_wp2_with fail
        go_quiet (fail)
        clear hsum
        have HQd := Lib.hid (HQ.out.below (pw_below_drewN (Below.refl _ _) nq))
        clear lk q9 q1 f2
        generalize wr.drewN nq = wd at *
        obtain ⟨okr, hR1, hR2, hR3⟩ := HQd.out.appended
        have HR1 := Lib.hid hR1
        have HR2 := Lib.hid hR2
        have HR3 := Lib.hid hR3
        clear hR1 hR2 hR3
        go_wp2_with (at_builtin; refine Kd.R_append (Kd.int .i64) (w0 := wd) 0 rfl (.tmp 46) (.tmp 48) 33 3 (.int .i64 0) 8 rfl Tryz.underlying33 info_int rfl (by decide) (by omega) u5 (fm l2 (oldB σ now) (·.id) j) m.id [.int .i64 m.id] okr (fun _ => False) rfl rfl rfl (fun _ hk => hk.elim) HR2.out HR1.out (Below.refl _ _) (Nat.zero_le _) (by have := HFL.out; omega) ?_; intro v5 w5 hR5 hB5 hg5 _; have HP5 := Lib.hid (HR3.out _ _ _ hR5 hg5).up2; clear hR5 hB5 hg5)
        refine Calls.mono (HP5.out.quDrop m.id hwf hT6) ?_
        rintro e w6 ⟨rfl, hP6⟩
        have HP6 := Lib.hid hP6.down2
        clear hP6
        go_wp2_with fail
        refine ⟨⟨j + 1, by simp, by omega, ?_⟩, ?_⟩
        · rw [fm_yes HM.out HOB.out, HTK.out, HGS.out, if_pos HOLD.out]
          exact HP6.out
        · simp [intOf]
          omega
      · have HOB := Lib.hid (show oldB σ now m = false from decide_eq_false hold)
        have HGS := Lib.hid (gone_step (now := now) (a := σ.a) (gs := (l2.map (·.id)).take j) HU.out)
        have HOLD := Lib.hid hold
        have hsum : IntKind.i64.wrap (m.sent + σ.a.ret) = m.sent + σ.a.ret := IntWalk.i64_in _ (by omega)
        go_wp2_with fail
        go_quiet (fail)
        clear hsum
        have HQd := Lib.hid (HQ.out.below (pw_below_drewN (Below.refl _ _) nq))
        clear lk q9 q1 f2
        generalize wr.drewN nq = wd at *
        go_wp2_with fail
        refine ⟨⟨j + 1, by simp, by omega, ?_⟩, ?_⟩
        · rw [fm_no HM.out HOB.out, HTK.out, HGS.out, if_neg (by have := HOLD.out; omega)]
          exact HQd.out
        · simp [intOf]
          omega
    · have hjn' : j = n := by omega
      subst hjn'
      obtain ⟨A9, c9, rfl⟩ := Kd.R_slice HQ.out.head
      have hq := HQ.out
      have hgo : (l2.filter (oldB σ now)).map (·.id) = qGone σ now := by rw [HL2.out]; exact tick_gone
      have hgr : goneRow l2 σ.a now (l2.map (·.id)) = (qTick σ now).l := by rw [gone_all, HL2.out]; exact tick_row
      rw [fm_all (by rw [HN.out]; exact Nat.le_refl _), List.take_of_length_le (by rw [List.length_map, HN.out]; exact Nat.le_refl _), hgo, hgr] at hq
      rw [fm_all (by rw [HN.out]; exact Nat.le_refl _), hgo]
      obtain ⟨gg, hgg⟩ : ∃ gg, gg = qGone σ now := ⟨_, rfl⟩
      obtain ⟨gn, hgn⟩ : ∃ gn, gn = gg.length := ⟨_, rfl⟩
      rw [← hgg, ← hgn] at hq
      rw [← hgg, ← hgn]
      obtain ⟨mb, lb, tb, sb, T', ms, s, ti, r, hij, hr, hT, hP⟩ := hq.up2.quOpen'
      have q12 : wr.cell? ⟨qb, 12, none⟩ = some (.pointer (some ⟨sb, 0, none⟩)) := blk_cell hP.blk0 12
      have HP9 := Lib.hid hP.up4
      have HR9 := Lib.hid hr
      have HGG := Lib.hid hgg
      have HGN := Lib.hid hgn
      have hrl : r.length ≤ 1000000 := by have h1 := hr.rLen; have h2 := hij.klen; omega
      clear hq hgo hgr hgg hgn hij hr hP
      go_wp2_with fail
      refine Calls.mono (HP9.out.ldISweep now hrl) ?_
      rintro e w7 ⟨A7, c7, rfl, hP7⟩
      have HP7 := Lib.hid hP7.tail.down4
      clear hP7 q12
      go_wp2_with fail
      go_ret2
      have hrel : QRel (qTick σ now) ms s ti (left r now) := ⟨HR9.out.ms, HR9.out.s, HR9.out.ti, HR9.out.r.filter _⟩
      have hfin := Hp.quShut' (σ := qTick σ now) HP7.out HTI.out hrel hT
      refine ⟨A1, n1, c1, A9, gn, c9, by rw [HN1.out, HDD.out], by rw [HGN.out, HGG.out], rfl, ?_⟩
      rw [← HDD.out, ← HGG.out]
      exact hfin.drop2.up2.swap2
/-- A Tick: what it leaves, the letters, what is gone. -/
theorem Hp.quTck (h : Hp w0 w (AQu qb σ T :: Ps)) (hT6 : T ≤ 1000000) (now : Int) :
    Calls Tryz.prog 108 #[.pointer (some ⟨qb, 0, none⟩), .int .i64 now] w fun e w' => ∃ A1 n1 c1 A2 n2 c2, n1 = (qTck σ now).2.1.length ∧ n2 = (qTck σ now).2.2.length ∧ e = .returned (.tuple #[.slice A1 n1 c1, .slice A2 n2 c2]) ∧ Hp w0 w' (ALt (.slice A1 n1 c1) (qTck σ now).2.1 :: AInt (.slice A2 n2 c2) (qTck σ now).2.2 :: AQu qb (qTck σ now).1 T :: Ps) := by
  cases hm : qMay σ now with
  | false =>
    have e2 : qTck σ now = (σ, ([], [])) := by unfold qTck; rw [if_neg (by rw [hm]; decide)]
    rw [e2]
    refine Calls.mono (h.tckNot now hm) ?_
    rintro e w' ⟨rfl, rfl⟩
    exact ⟨none, 0, 0, none, 0, 0, rfl, rfl, rfl, (h.fresh (Below.refl _ _) (Kd.R_nil _ _ _ _ _)).fresh (Below.refl _ _) (Kd.R_nil _ _ _ _ _)⟩
  | true =>
    have e2 : qTck σ now = (qTick σ now, ((qDead σ now).map Msg.lt, qGone σ now)) := by unfold qTck; rw [if_pos hm]
    rw [e2]
    refine Calls.mono (h.tckDo hT6 now hm) ?_
    rintro e w' ⟨A1, n1, c1, A2, n2, c2, h1, h2, h3, h4⟩
    exact ⟨A1, n1, c1, A2, n2, c2, by rw [h1, List.length_map], h2, h3, h4⟩
end
end Go.Proofs.YtipdleiginnjmaaGreatDoor
namespace Go.Proofs.YtipdleiginnjmaaGreatDoor
open Go.RowKit Go.Maps Go.Proofs.YtipdleiginnjmaaGreatDoorW.PrintWords
section
variable {w0 w : World} {qb T : Nat} {σ : Qs} {Ps : List Asn}
theorem perm_ac {α : Type} {l1 l2 : List α} (h : ∀ (_ : DecidableEq α) (a : α), l1.count a = l2.count a) : l1.Perm l2 := by
  letI inst : DecidableEq α := fun a b => Classical.propDecidable (a = b)
  exact List.perm_iff_count.2 (h inst)
theorem Hp.up5 {P Q R S U V : Asn} (h : Hp w0 w (P :: Q :: R :: S :: U :: V :: Ps)) : Hp w0 w (V :: P :: Q :: R :: S :: U :: Ps) := h.perm (List.perm_middle (l₁ := [P, Q, R, S, U]))
theorem Hp.up7 {P Q R S U V W X : Asn} (h : Hp w0 w (P :: Q :: R :: S :: U :: V :: W :: X :: Ps)) : Hp w0 w (X :: P :: Q :: R :: S :: U :: V :: W :: Ps) := h.perm (List.perm_middle (l₁ := [P, Q, R, S, U, V, W]))
/-- A range over a map of messages is under way. -/
def ARng (mb rb : Nat) (ms todo : List (Int × Bod)) : Asn where
  pred w S := S mb ∧ S rb ∧ RangeAt KI encQ w mb rb ms todo
  mono h hm := ⟨hm _ h.1 h.2.2.lt.1, hm _ h.2.1 h.2.2.lt.2.1, h.2.2⟩
  move h hm := ⟨h.1, h.2.1, h.2.2.move (hm _ h.1 h.2.2.lt.1) (hm _ h.2.1 h.2.2.lt.2.1)⟩
theorem Hp.rngStart {mb rb : Nat} {ms : List (Int × Bod)} (h : Hp w0 w (AMp mb ms :: Ps)) {w' : World} (hR : RangeAt KI encQ w' mb w.heap.size ms ms) (hB : Below w.heap.size w w') (hrb : rb = w.heap.size) : Hp w0 w' (ARng mb rb ms ms :: Ps) := by
  subst hrb
  obtain ⟨S1, h1, h2⟩ := h.use1
  exact h2 w' (ARng mb w.heap.size ms ms) (Keep.of_below hB _) ⟨.inl h1.1, .inr (Nat.le_refl _), hR⟩
theorem Hp.rngNext {mb rb : Nat} {ms todo : List (Int × Bod)} (h : Hp w0 w (ARng mb rb ms todo :: Ps)) : RangeAt KI encQ w mb rb ms todo ∧ ∀ (w' : World) (todo' : List (Int × Bod)), RangeAt KI encQ w' mb rb ms todo' → ButB w w' rb → Hp w0 w' (ARng mb rb ms todo' :: Ps) := by
  obtain ⟨S1, h1, h2⟩ := h.use1
  exact ⟨h1.2.2, fun w' todo' hR hB => h2 w' (ARng mb rb ms todo') (hB.keep h1.2.1) ⟨.inl h1.1, .inl h1.2.1, hR⟩⟩
theorem Hp.rngEnd {mb rb : Nat} {ms todo : List (Int × Bod)} (h : Hp w0 w (ARng mb rb ms todo :: Ps)) : Hp w0 w (AMp mb ms :: Ps) := by
  obtain ⟨S1, h1, h2⟩ := h.use1
  exact h2 w (AMp mb ms) (Keep.refl _ _) ⟨.inl h1.1, h1.2.2.1⟩
/-- The cells of a queue's block, all of them. -/
theorem cells13 {mb lb tb sb t : Nat} (h : w.heap[qb]? = some (.cells (quCells σ mb lb tb sb) t (0, 0))) :
    w.cell? ⟨qb, 0, none⟩ = some (.int .i64 σ.a.vis) ∧ w.cell? ⟨qb, 1, none⟩ = some (.int .i64 σ.a.ret) ∧ w.cell? ⟨qb, 2, none⟩ = some (.int .i64 σ.a.del) ∧ w.cell? ⟨qb, 3, none⟩ = some (.int .i64 σ.a.win) ∧ w.cell? ⟨qb, 4, none⟩ = some (.int .i64 σ.a.max) ∧ w.cell? ⟨qb, 5, none⟩ = some (.string σ.a.dead) ∧ w.cell? ⟨qb, 6, none⟩ = some (.bool σ.a.fifo) ∧ w.cell? ⟨qb, 7, none⟩ = some (.int .i64 σ.now) ∧ w.cell? ⟨qb, 8, none⟩ = some (.int .i64 σ.next) ∧ w.cell? ⟨qb, 10, none⟩ = some (.pointer (some ⟨lb, 0, none⟩)) ∧ w.cell? ⟨qb, 11, none⟩ = some (.pointer (some ⟨tb, 0, none⟩)) ∧ w.cell? ⟨qb, 12, none⟩ = some (.pointer (some ⟨sb, 0, none⟩)) :=
  ⟨blk_cell h 0, blk_cell h 1, blk_cell h 2, blk_cell h 3, blk_cell h 4, blk_cell h 5, blk_cell h 6, blk_cell h 7, blk_cell h 8, blk_cell h 10, blk_cell h 11, blk_cell h 12⟩
set_option maxHeartbeats 3200000 in
set_option maxRecDepth 100000 in
theorem Hp.quCopy (h : Hp w0 w (AQu qb σ T :: Ps)) (hT6 : T ≤ 1000000) :
    Calls Tryz.prog 51 #[.pointer (some ⟨qb, 0, none⟩)] w fun e w' => ∃ cb, e = .returned (.pointer (some ⟨cb, 0, none⟩)) ∧ Hp w0 w' (AQu cb σ T :: AQu qb σ T :: Ps) := by
  obtain ⟨mb, lb, tb, sb, T', ms, s, ti, r, hi, hr, hT, hP⟩ := h.quOpen'
  have hmm := @run_makeMap Tryz.prog
  obtain ⟨c0, c1, c2, c3, c4, c5, c6, c7, c8, c10, c11, c12⟩ := cells13 hP.blk0
  have hql := blk_lt hP.blk0
  have htl : ti.length ≤ 1000000 := by have := hr.tLen; have := hi.len; omega
  have HP := Lib.hid hP
  have HI := Lib.hid hi
  have HR := Lib.hid hr
  clear h hP hi hr
  go_enter Tryz.func51, Tryz.ntmps51
  go_wp2_with fail
  go_cut [3] (fun p wx => ∃ cb mb2 lb2 tb2 sb2 : Nat, p = .pointer (some ⟨cb, 0, none⟩) ∧ Hp w0 wx (AMp mb2 [] :: ABlk cb (quObj σ mb2 lb2 tb2 sb2) :: ALn lb2 s T' :: ATm tb2 ti :: ALdI sb2 4096 r :: AMp mb ms :: ABlk qb (quObj σ mb lb tb sb) :: ALn lb s T' :: ATm tb ti :: ALdI sb 4096 r :: Ps))
  case first =>
    go_region_held3 (fun w' => w'.cell? ⟨qb, 0, none⟩ = some (.int .i64 σ.a.vis) ∧ w'.cell? ⟨qb, 1, none⟩ = some (.int .i64 σ.a.ret) ∧ w'.cell? ⟨qb, 2, none⟩ = some (.int .i64 σ.a.del) ∧ w'.cell? ⟨qb, 3, none⟩ = some (.int .i64 σ.a.win) ∧ w'.cell? ⟨qb, 4, none⟩ = some (.int .i64 σ.a.max) ∧ w'.cell? ⟨qb, 5, none⟩ = some (.string σ.a.dead) ∧ w'.cell? ⟨qb, 6, none⟩ = some (.bool σ.a.fifo) ∧ w'.cell? ⟨qb, 7, none⟩ = some (.int .i64 σ.now) ∧ w'.cell? ⟨qb, 8, none⟩ = some (.int .i64 σ.next) ∧ w'.cell? ⟨qb, 10, none⟩ = some (.pointer (some ⟨lb, 0, none⟩)) ∧ w'.cell? ⟨qb, 11, none⟩ = some (.pointer (some ⟨tb, 0, none⟩)) ∧ w'.cell? ⟨qb, 12, none⟩ = some (.pointer (some ⟨sb, 0, none⟩)))
      (first | exact ⟨c0, c1, c2, c3, c4, c5, c6, c7, c8, c10, c11, c12⟩ | go_keep | exact cells13 HP4.out.tail.tail.tail.blk3 | exact cells13 HP4.out.tail.tail.tail.tail.blk3 | exact cells13 HP3.out.tail.tail.blk2 | exact cells13 HP3.out.tail.tail.blk3 | exact cells13 HP2.out.blk2 | exact cells13 HP2.out.blk3)
      (first
        | (go_at_call 85; refine Calls.mono ((by first | exact HP.out.up2 | exact (HP.out.below (Below.refl _ _).drew).up2 | exact (HP.out.alloc (.map #[] 0)).up3 | exact ((HP.out.below (Below.refl _ _).drew).alloc (.map #[] 0)).up3 | exact ((HP.out.alloc (.map #[] 0)).below (Below.refl _ _).drew).up3 : Hp w0 _ (ALn lb s T' :: _)).lnCopy (by omega)) ?_; rintro e w2 ⟨lb2, rfl, hP2⟩; have HP2 := Lib.hid hP2; clear hP2)
        | (go_at_call 86; refine Calls.mono ((by first | exact HP2.out.up4 | exact HP2.out.up5 | exact (HP2.out.alloc (.map #[] 0)).up5 : Hp w0 _ (ATm tb ti :: _)).tmCopy htl) ?_; rintro e w3 ⟨tb2, rfl, hP3⟩; have HP3 := Lib.hid hP3; clear hP3)
        | (go_at_call 87; refine Calls.mono ((by first | exact HP3.out.up6 | exact HP3.out.up7 | exact (HP3.out.alloc (.map #[] 0)).up7 : Hp w0 _ (ALdI sb 4096 r :: _)).ldICopy) ?_; rintro e w4 ⟨sb2, rfl, hP4⟩; have HP4 := Lib.hid hP4; clear hP4))
    all_goals
      go_wp2_with fail
      go_meet
      case rel =>
        first
          | (have h9 : Hp w0 _ (ABlk (w.heap.size) (.map #[] 0) :: ABlk (w4.heap.size) (quObj σ (w.heap.size) lb2 tb2 sb2) :: ALn lb2 s T' :: ATm tb2 ti :: ALdI sb2 4096 r :: AMp mb ms :: ABlk qb (quObj σ mb lb tb sb) :: ALn lb s T' :: ATm tb ti :: ALdI sb 4096 r :: Ps) := (HP4.out.alloc (.cells (quCells σ (w.heap.size) lb2 tb2 sb2) 112)).perm (perm_ac (fun _ a => by simp only [List.count_cons]; ac_rfl))
             exact ⟨_, _, _, _, _, rfl, h9.asMap⟩)
          | (have h9 : Hp w0 _ (ABlk (w.drew.heap.size) (.map #[] 0) :: ABlk (w4.heap.size) (quObj σ (w.drew.heap.size) lb2 tb2 sb2) :: ALn lb2 s T' :: ATm tb2 ti :: ALdI sb2 4096 r :: AMp mb ms :: ABlk qb (quObj σ mb lb tb sb) :: ALn lb s T' :: ATm tb ti :: ALdI sb 4096 r :: Ps) := (HP4.out.alloc (.cells (quCells σ (w.drew.heap.size) lb2 tb2 sb2) 112)).perm (perm_ac (fun _ a => by simp only [List.count_cons]; ac_rfl))
             exact ⟨_, _, _, _, _, rfl, h9.asMap⟩)
          | (have h9 : Hp w0 _ (ABlk (w2.heap.size) (.map #[] 0) :: ABlk (w4.heap.size) (quObj σ (w2.heap.size) lb2 tb2 sb2) :: ALn lb2 s T' :: ATm tb2 ti :: ALdI sb2 4096 r :: AMp mb ms :: ABlk qb (quObj σ mb lb tb sb) :: ALn lb s T' :: ATm tb ti :: ALdI sb 4096 r :: Ps) := (HP4.out.alloc (.cells (quCells σ (w2.heap.size) lb2 tb2 sb2) 112)).perm (perm_ac (fun _ a => by simp only [List.count_cons]; ac_rfl))
             exact ⟨_, _, _, _, _, rfl, h9.asMap⟩)
          | (have h9 : Hp w0 _ (ABlk (w3.heap.size) (.map #[] 0) :: ABlk (w4.heap.size) (quObj σ (w3.heap.size) lb2 tb2 sb2) :: ALn lb2 s T' :: ATm tb2 ti :: ALdI sb2 4096 r :: AMp mb ms :: ABlk qb (quObj σ mb lb tb sb) :: ALn lb s T' :: ATm tb ti :: ALdI sb 4096 r :: Ps) := (HP4.out.alloc (.cells (quCells σ (w3.heap.size) lb2 tb2 sb2) 112)).perm (perm_ac (fun _ a => by simp only [List.count_cons]; ac_rfl))
             exact ⟨_, _, _, _, _, rfl, h9.asMap⟩)
          | (have h9 : Hp w0 _ (ABlk (w4.heap.size) (.map #[] 0) :: ABlk ((w4.alloc (.map #[] 0)).heap.size) (quObj σ (w4.heap.size) lb2 tb2 sb2) :: ALn lb2 s T' :: ATm tb2 ti :: ALdI sb2 4096 r :: AMp mb ms :: ABlk qb (quObj σ mb lb tb sb) :: ALn lb s T' :: ATm tb ti :: ALdI sb 4096 r :: Ps) := ((HP4.out.alloc (.map #[] 0)).alloc (.cells (quCells σ w4.heap.size lb2 tb2 sb2) 112)).perm (perm_ac (fun _ a => by simp only [List.count_cons]; ac_rfl))
             rw [show (w4.alloc (.map #[] 0)).heap.size = w4.heap.size + 1 from by simp] at h9
             exact ⟨_, _, _, _, _, rfl, h9.asMap⟩)
  case rest =>
    obtain ⟨cb, mb2, lb2, tb2, sb2, rfl, hX⟩ := hcut
    have q9 : wc.cell? ⟨qb, 9, none⟩ = some (.map (some mb)) := blk_cell hX.tail.tail.tail.tail.tail.tail.blk0 9
    have HX := Lib.hid hX.up5
    have HMS := Lib.hid (HX.out.head : (AMp mb ms).pred _ _).2
    clear hX c0 c1 c2 c3 c4 c5 c6 c7 c8 c10 c11 c12
    go_wp2_with (refine wpList_range_at (K := KI) (enc := encQ) HMS.out (by rfl) (.tmp 39) 107 161 rfl under_qu rfl ?_; intro w2 hR2 hB2 hz2)
    obtain ⟨rb, hrb⟩ : ∃ rb, rb = wc.heap.size := ⟨_, rfl⟩
    have hP2 := HX.out.rngStart hR2 hB2 rfl
    rw [← hrb] at hP2 ⊢
    have HP2 := Lib.hid hP2
    clear hR2 hB2 hz2 hP2 hrb q9
    go_frame
    go_loopg [4] ms.length (fun gn u4 wr => ∃ ds todo : List (Int × Bod), todo.length = gn ∧ (ds ++ todo).Perm ms ∧ Hp w0 wr (ARng mb rb ms todo :: AMp mb2 ds :: ABlk cb (quObj σ mb2 lb2 tb2 sb2) :: ALn lb2 s T' :: ATm tb2 ti :: ALdI sb2 4096 r :: ABlk qb (quObj σ mb lb tb sb) :: ALn lb s T' :: ATm tb ti :: ALdI sb 4096 r :: Ps))
    case atStart => exact ⟨[], ms, rfl, List.Perm.refl _, HP2.out⟩
    case round =>
      obtain ⟨ds, todo, hgn, hperm, hP3⟩ := hrel
      have HPM := Lib.hid hperm
      have HP3 := Lib.hid hP3
      have HRA := Lib.hid hP3.rngNext.1
      have hlen : ds.length + todo.length = ms.length := by rw [← List.length_append]; exact hperm.length_eq
      have hms : ms.length ≤ 1024 := by rw [HR.out.len]; exact HI.out.len
      clear hperm hP3
      go_wp2_with (refine wpList_next_at (K := KI) (enc := encQ) HRA.out (by rfl) (.tmp 40) rfl rfl ?_ ?_)
      · intro htodo
        subst htodo
        have hpp := HPM.out
        rw [List.append_nil] at hpp
        obtain ⟨S1, h1, h2⟩ := HP3.out.rngEnd.swap.use1
        have hP4 : Hp w0 wr (AMp mb2 ms :: AMp mb ms :: ABlk cb (quObj σ mb2 lb2 tb2 sb2) :: ALn lb2 s T' :: ATm tb2 ti :: ALdI sb2 4096 r :: ABlk qb (quObj σ mb lb tb sb) :: ALn lb s T' :: ATm tb ti :: ALdI sb 4096 r :: Ps) := h2 wr (AMp mb2 ms) (Keep.refl _ _) ⟨.inl h1.1, h1.2.perm hpp⟩
        have hP5 : Hp w0 wr (ABlk cb (quObj σ mb2 lb2 tb2 sb2) :: AMp mb2 ms :: ALn lb2 s T' :: ATm tb2 ti :: ALdI sb2 4096 r :: ABlk qb (quObj σ mb lb tb sb) :: AMp mb ms :: ALn lb s T' :: ATm tb ti :: ALdI sb 4096 r :: Ps) := hP4.perm (perm_ac (fun _ a => by simp only [List.count_cons]; ac_rfl))
        have hP6 := hP5.quShut' HI.out HR.out hT
        have hP7 : Hp w0 wr (ABlk qb (quObj σ mb lb tb sb) :: AMp mb ms :: ALn lb s T' :: ATm tb ti :: ALdI sb 4096 r :: AQu cb σ T :: Ps) := hP6.perm (perm_ac (fun _ a => by simp only [List.count_cons]; ac_rfl))
        have HP8 := Lib.hid (hP7.quShut' HI.out HR.out hT).swap
        clear hP4 hP5 hP6 hP7 hpp h1 h2
        go_wp2_with fail
        go_ret
        exact ⟨cb, rfl, HP8.out⟩
      · intro cc x1 x2 x3 x4 x5 todo' w4 hp hmem hok hra4 hB4 hent
        replace hent : (Instr.entry (.pointer (some ⟨rb, 0, none⟩))).run Tryz.prog w4 = .ok (.tuple #[.int .i64 cc, .agg #[.string x1, .string x2, .int .i64 x3, .int .i64 x4, .int .i64 x5]]) w4 := hent
        replace hok : (Lit.int .i64 cc).wf = true := hok
        have HPT := Lib.hid hp
        have HA0 := Lib.hid ((HP3.out.rngNext.2 w4 todo' hra4 hB4).alloc (.cells #[.string x1, .string x2, .int .i64 x3, .int .i64 x4, .int .i64 x5] 161))
        have hnd := HMS.out.nodup
        have HDN := Lib.hid (show mget ds cc = none from mget_none.2 (fun q hq e => by
          have h1 := (HPM.out.map (·.1)).nodup_iff.2 hnd
          rw [List.map_append, List.nodup_append] at h1
          exact h1.2.2 q.1 (List.mem_map_of_mem hq) cc (List.mem_map.2 ⟨(cc, (x1, x2, x3, x4, x5)), hp.mem_iff.2 (List.mem_cons_self ..), rfl⟩) e))
        have hdl : ds.length < maxLen := by simp [maxLen]; omega
        clear hp hmem hra4 hB4 hnd
        go_wp2_with fail
        have b0 := blk_cell HA0.out.blk0 0
        have b1 := blk_cell HA0.out.blk0 1
        have b2 := blk_cell HA0.out.blk0 2
        have b3 := blk_cell HA0.out.blk0 3
        have b4 := blk_cell HA0.out.blk0 4
        have p9 : (w4.alloc (.cells #[.string x1, .string x2, .int .i64 x3, .int .i64 x4, .int .i64 x5] 161)).cell? ⟨cb, 9, none⟩ = some (.map (some mb2)) := blk_cell HA0.out.blk3 9
        simp only [List.getElem?_toArray, List.getElem?_cons_zero, List.getElem?_cons_succ] at b0 b1 b2 b3 b4
        clear hent
        generalize w4.alloc (.cells #[.string x1, .string x2, .int .i64 x3, .int .i64 x4, .int .i64 x5] 161) = W at *
        go_still_tail 6, (by kernel_rfl)
        change wpList _ _ _ _ _ W.drew
        have HA := Lib.hid (HA0.out.below (Below.refl _ _).drew).up2
        refine wpList_put_at (K := KI) (enc := encQ) HA.out.mapUse.1 (by rfl) (.tmp 49) (.tmp 50) (.tmp 51) 107 161 rfl under_qu hdl rfl cc (x1, (x2, (x3, (x4, x5)))) rfl rfl hok ?_
        intro w6 hM6 hB6
        have hP6 := (HA.out.mapUse.2 w6 _ hM6 hB6).up2.drop2
        unfold mput at hP6
        rw [mdel_none HDN.out] at hP6
        have HP6 := Lib.hid hP6
        clear b0 b1 b2 b3 b4 p9 hM6 hB6 hP6
        go_wp2_with fail
        go_roundg todo'.length
        case measure =>
          have := HPT.out.length_eq
          rw [List.length_cons] at this
          omega
        case rel =>
          refine ⟨(cc, (x1, (x2, (x3, (x4, x5))))) :: ds, todo', rfl, ?_, HP6.out⟩
          refine List.Perm.trans ?_ HPM.out
          exact (List.perm_middle.symm).trans (List.Perm.append_left _ HPT.out.symm)
/-- A Send: what it leaves, what it tells. -/
theorem Hp.quSend (h : Hp w0 w (AQu qb σ T :: Ps)) (hT6 : T < 1000000) (body group key : ByteArray) (delay : Int) (hg : group.size ≤ maxLen) (hk : key.size ≤ maxLen) :
    Calls Tryz.prog 114 #[.pointer (some ⟨qb, 0, none⟩), .string body, .string group, .string key, .int .i64 delay] w fun e w' => e = .returned (.tuple #[.int .i64 (qSend σ body group key delay).2.1, .int .i64 (qSend σ body group key delay).2.2]) ∧ Hp w0 w' (AQu qb (qSend σ body group key delay).1 (T + 1) :: Ps) := by
  have H := h
  obtain ⟨mb, lb, tb, sb, T', ms, s, ti, r, hi, hr, hT, hP⟩ := h.quOpen'
  cases hmay : qMaySend σ.a body group key delay with
  | false =>
    have e2 : qSend σ body group key delay = (σ, (0, 1)) := by unfold qSend; rw [if_pos hmay]
    rw [e2]
    refine Calls.mono (H.sendNot body group key delay hmay) ?_
    rintro e w' ⟨rfl, h2⟩
    exact ⟨rfl, h2.quMono (Nat.le_succ T)⟩
  | true =>
    cases hmg : mget σ.k key with
    | some x =>
      have e2 : qSend σ body group key delay = (σ, (x.1, 0)) := by unfold qSend; rw [if_neg (by rw [hmay]; decide), hmg]
      rw [e2]
      refine Calls.mono (H.sendKnown body group key delay hk hmay x hmg) ?_
      rintro e w' ⟨rfl, h2⟩
      exact ⟨rfl, h2.quMono (Nat.le_succ T)⟩
    | none =>
      have hml := hr.len
      have hrl := hr.rLen
      have hmr := (hr.key hi key).trans hmg
      cases hF : qFull σ key with
      | true =>
        have e2 : qSend σ body group key delay = (σ, (0, 5)) := by unfold qSend; rw [if_neg (by rw [hmay]; decide), hmg]; dsimp only; rw [if_pos hF]
        rw [e2]
        unfold qFull qKnows at hF
        rw [Bool.or_eq_true, Bool.and_eq_true, decide_eq_true_iff, decide_eq_true_iff, decide_eq_true_iff] at hF
        refine Calls.mono (hP.sendFull body group key delay hk hmay hmr (by omega)) ?_
        rintro e w' ⟨rfl, h2⟩
        exact ⟨rfl, (h2.quShut' hi hr hT).quMono (Nat.le_succ T)⟩
      | false =>
        have e2 : qSend σ body group key delay = (qSent σ body group key delay, (σ.next, 0)) := by unfold qSend; rw [if_neg (by rw [hmay]; decide), hmg]; dsimp only; rw [if_neg (by rw [hF]; decide)]
        rw [e2]
        have hF2 := hF
        unfold qFull qKnows at hF2
        rw [Bool.or_eq_false_iff, Bool.and_eq_false_iff, decide_eq_false_iff_not, decide_eq_false_iff_not, decide_eq_false_iff_not] at hF2
        exact hP.sendNew hi hr hT hT6 body group key delay hg hk hmay hmg hF (by omega) (by omega)
end
end Go.Proofs.YtipdleiginnjmaaGreatDoor
