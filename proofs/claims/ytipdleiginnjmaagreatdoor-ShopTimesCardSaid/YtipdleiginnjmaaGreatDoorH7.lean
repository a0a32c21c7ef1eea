/- Put together: queue: ready. · queue: ready. · queue: may. · queue: Send. · queue: ready, among what a law holds; some messages received: the plain law of a round. · queue: Receive. -/
import Derived.Test.YtipdleiginnjmaaGreatDoorH6
import Derived.StillTailTactics
import Derived.StillTactics
import Derived.IntWalk
set_option linter.unusedVariables false
set_option linter.unusedSimpArgs false
namespace Go.Proofs.YtipdleiginnjmaaGreatDoor
open Go.RowKit Go.Maps Go.Proofs.YtipdleiginnjmaaGreatDoorW.PrintWords
open Go.Sort (grow putRow putCells ahead mapBlock Holds cell?_grow cell?_putRow_other size_putRow grow_empty)
section
variable {w0 w : World} {qb T : Nat} {σ : Qs} {Ps : List Asn}
/-- Whether a number is one of a message that can't be received, by the time. -/
def delP (σ : Qs) (id : Int) : Bool := match σ.l.find? (fun m => decide (m.id = id)) with
  | some m => m.leased || decide (σ.now < m.at_)
  | none => false
theorem delP_of (hi : QInv σ T) {m : Msg} (hm : m ∈ σ.l) : delP σ m.id = (m.leased || decide (σ.now < m.at_)) := by
  unfold delP
  cases hf : σ.l.find? (fun x => decide (x.id = m.id)) with
  | some x =>
    have h1 := List.mem_of_find?_eq_some hf
    have h2 := List.find?_some hf
    rw [decide_eq_true_iff] at h2
    obtain rfl := uniq_at hi hm x h1 h2
    rfl
  | none =>
    have := List.find?_eq_none.1 hf m hm
    simp at this
theorem rdy_delP (hi : QInv σ T) (p : Msg → Bool) : ((σ.l.filter p).map (·.id)).filter (fun x => !delP σ x) = (σ.l.filter (fun m => !m.leased && decide (m.at_ ≤ σ.now) && p m)).map (·.id) := by
  rw [List.filter_map, List.filter_filter]
  congr 1
  apply List.filter_congr
  intro m hm
  simp only [Function.comp]
  rw [delP_of hi hm, Bool.not_or]
  have : (!decide (σ.now < m.at_)) = decide (m.at_ ≤ σ.now) := by
    by_cases h : m.at_ ≤ σ.now
    · rw [decide_eq_true h, decide_eq_false (by omega)]; rfl
    · rw [decide_eq_false h, decide_eq_true (by omega)]; rfl
  rw [this]
/-- The heads of the lanes are the firsts of their groups. -/
theorem QRel.heads {ms : List (Int × Bod)} {s : List En} {ti : List It} {r : List (Ent Int)} (h : QRel σ ms s ti r) (hi : QInv σ T) : (lHeads s).map (·.1) = (σ.l.filter (qFirst σ.l)).map (·.id) := by
  have hg : ∀ g, grp s g = (σ.l.filter (fun m => decide (m.group = g))).map (·.id) := by
    intro g
    have e : grp s g = ((s.map (fun e => (e.1, e.2.1))).filter (fun p => decide (p.2 = g))).map (·.1) := by
      unfold grp
      rw [List.filter_map, List.map_map]
      rfl
    rw [e, h.s, List.filter_map, List.map_map]
    rfl
  have e : (lHeads s).map (·.1) = ((s.map (fun e => (e.1, e.2.1))).filter (fun p => decide ((grp s p.2).head? = some p.1))).map (·.1) := by
    unfold lHeads
    rw [List.filter_map, List.map_map]
    rfl
  rw [e, h.s, List.filter_map, List.map_map]
  have hf : σ.l.filter ((fun p : Int × ByteArray => decide ((grp s p.2).head? = some p.1)) ∘ fun m => (m.id, m.group)) = σ.l.filter (qFirst σ.l) := by
    apply List.filter_congr
    intro m hm
    simp only [Function.comp]
    rw [hg, List.head?_map, List.head?_filter]
    unfold qFirst
    rw [Bool.eq_iff_iff, decide_eq_true_iff, Bool.not_eq_true', List.any_eq_false]
    have hr := hi.rise
    constructor
    · intro hh x hx
      rw [decide_eq_true_iff]
      rintro ⟨h1, h2⟩
      obtain ⟨y, hy, hye⟩ := Option.map_eq_some_iff.1 hh
      obtain ⟨hyp, xs1, xs2, hsp, has⟩ := List.find?_eq_some_iff_append.1 hy
      rw [hsp, List.pairwise_append, List.pairwise_cons] at hr
      rw [hsp] at hx
      rcases List.mem_append.1 hx with hx | hx
      · have := has x hx
        simp [h2] at this
      · rcases List.mem_cons.1 hx with hx | hx
        · rw [hx, hye] at h1; omega
        · have := hr.2.1.1 x hx
          rw [hye] at this; omega
    · intro hno
      cases hfd : σ.l.find? (fun x => decide (x.group = m.group)) with
      | none =>
        have := List.find?_eq_none.1 hfd m hm
        simp at this
      | some y =>
        obtain ⟨hyp, xs1, xs2, hsp, has⟩ := List.find?_eq_some_iff_append.1 hfd
        have hyl : y ∈ σ.l := by rw [hsp]; simp
        have h1 := hno y hyl
        rw [decide_eq_true_iff] at h1 hyp
        rw [hsp, List.pairwise_append, List.pairwise_cons] at hr
        rw [hsp] at hm
        rw [Option.map_some]
        congr 1
        rcases List.mem_append.1 hm with hm | hm
        · have := has m hm
          simp at this
        · rcases List.mem_cons.1 hm with hm | hm
          · rw [hm]
          · have := hr.2.1.1 m hm
            exact absurd ⟨this, hyp⟩ h1
  exact congrArg (List.map (fun m => m.id)) hf
set_option maxHeartbeats 800000 in
set_option maxRecDepth 100000 in
theorem ready_cl {mb lb tb sb : Nat} {ti : List It} {S : Nat → Prop} (id : Int) (box : Nat) (h0 : w.cell? ⟨box, 0, none⟩ = some (.pointer (some ⟨qb, 0, none⟩))) (hb : w.heap[qb]? = some (quObj σ mb lb tb sb)) (hT : TmAt w S tb ti) (hw : (Lit.int .i64 id).wf = true) (b : Bod) (t : Int) (l : Bool) (hlk : ∀ n, (Instr.lookup 107 (.map (some mb)) (.int .i64 id) false).run Tryz.prog (w.drewN n) = .ok (encQ b) (w.drewN n)) (ht : itAt ti id = (t, l)) :
    Calls Tryz.prog 221 #[.int .i64 id, .pointer (some ⟨box, 0, none⟩)] w fun e w' => e = .returned (.bool (l || decide (σ.now < b.2.2.2.2))) ∧ ∃ n, w' = w.drewN n := by
  obtain ⟨b1, b2, b3, b4, b5⟩ := b
  have q11 : w.cell? ⟨qb, 11, none⟩ = some (.pointer (some ⟨tb, 0, none⟩)) := blk_cell hb 11
  have q9 : w.cell? ⟨qb, 9, none⟩ = some (.map (some mb)) := blk_cell hb 9
  have q7 : w.cell? ⟨qb, 7, none⟩ = some (.int .i64 σ.now) := blk_cell hb 7
  unfold encQ at hlk
  dsimp only at hlk
  have f4 : ∀ w : World, (Instr.field 161 (.agg #[.string b1, .string b2, .int .i64 b3, .int .i64 b4, .int .i64 b5]) 4).run Tryz.prog w = .ok (.int .i64 b5) w := fun w => by kernel_rfl
  have HAT := Lib.hid (timerAt_any w S tb ti id hT hw)
  have HT := Lib.hid ht
  clear hT hb ht
  cases l
  case true =>
    go_enter Tryz.func221, Tryz.ntmps221
    go_wp2_with fail
    refine Calls.mono HAT.out ?_
    rintro e w2 ⟨rfl, rfl⟩
    rw [HT.out]
    go_wp2_with fail
    go_quiet (fail)
    go_wp2_with fail
    go_ret
    exact ⟨rfl, _, rfl⟩
  case false =>
    go_enter Tryz.func221, Tryz.ntmps221
    go_wp2_with fail
    refine Calls.mono HAT.out ?_
    rintro e w2 ⟨rfl, rfl⟩
    rw [HT.out]
    go_wp2_with fail
    go_quiet (fail)
    go_wp2_with fail
    go_ret
    exact ⟨rfl, _, rfl⟩
theorem idx_none (A : Option Addr) (cap : Nat) (f : Value) (w : World) : Calls Tryz.prog 141 #[.slice A 0 cap, f] w fun e w' => e = .returned (.int .i64 (-1)) ∧ w = w' := by
  go_enter Tryz.func141, Tryz.ntmps141
  go_wp2_with fail
  go_loop [8] (fun i => i = .int .i64 0) (fun _ => 0)
  case atStart => rfl
  case round =>
    subst hrel
    go_wp2_with fail
    go_ret
    exact ⟨rfl, rfl⟩
theorem del_none (A : Option Addr) (cap : Nat) (f : Value) (w : World) : Calls Tryz.prog 216 #[.slice A 0 cap, f] w fun e w' => e = .returned (.slice A 0 cap) ∧ w = w' := by
  go_enter Tryz.func216, Tryz.ntmps216
  go_wp2_with fail
  refine Calls.mono (idx_none A cap f w) ?_
  rintro e w2 ⟨rfl, rfl⟩
  go_wp2_with fail
  go_ret
  exact ⟨rfl, rfl⟩
end
end Go.Proofs.YtipdleiginnjmaaGreatDoor
namespace Go.Proofs.YtipdleiginnjmaaGreatDoor
open Go.RowKit Go.Maps Go.Proofs.YtipdleiginnjmaaGreatDoorW.PrintWords
open Go.Sort (grow putRow putCells ahead mapBlock Holds cell?_grow cell?_putRow_other size_putRow grow_empty)
section
variable {w0 w : World} {qb T : Nat} {σ : Qs} {Ps : List Asn}
def ATop : Asn where
  pred _ _ := True
  mono _ _ := trivial
  move _ _ := trivial
theorem Hp.others {P : Asn} {S : Nat → Prop} (h : Hp w0 w (P :: Ps)) (hS : ∀ S1 : Nat → Prop, P.pred w S1 → ∀ k, S k → S1 k) {w' : World} (hK : Keep S w w') : Hp w0 w' Ps := by
  obtain ⟨S1, h1, h2⟩ := h.use1
  exact (h2 w' ATop (hK.mono (fun k _ hk => hS S1 h1 k hk)) trivial).tail
abbrev boxQ (qb : Nat) : Obj := .cells #[.pointer (some ⟨qb, 0, none⟩)] 55 (0, 0)
theorem ready_gives {box mb lb tb sb T' : Nat} {ms : List (Int × Bod)} {s : List En} {ti : List It} {r : List (Ent Int)} (h : Hp w0 w (ABlk box (boxQ qb) :: ABlk qb (quObj σ mb lb tb sb) :: AMp mb ms :: ALn lb s T' :: ATm tb ti :: ALdI sb 4096 r :: Ps)) (hi : QInv σ T) (hr : QRel σ ms s ti r) (x : Wid) :
    FnGives Tryz.prog 221 #[.pointer (some ⟨box, 0, none⟩)] #[encW x] (.bool (delP σ x.1)) w := by
  obtain ⟨x, hw⟩ := x
  have hM := (h.tail.tail.head : (AMp mb ms).pred _ _).2
  have hTm := h.tail.tail.tail.tail.head
  have h0 : w.cell? ⟨box, 0, none⟩ = some (.pointer (some ⟨qb, 0, none⟩)) := blk_cell h.blk0 0
  show Calls Tryz.prog 221 #[.int .i64 x, .pointer (some ⟨box, 0, none⟩)] w _
  cases hf : σ.l.find? (fun m => decide (m.id = x)) with
  | some m =>
    have h1 := List.mem_of_find?_eq_some hf
    have h2 := List.find?_some hf
    rw [decide_eq_true_iff] at h2
    subst h2
    rw [delP_of hi h1]
    have e : itAt ti m.id = ((if m.leased then (m.till, true) else (0, false)).1, m.leased) := by
      rw [hr.ls hi, qLs_of hi h1]
      cases m.leased <;> rfl
    exact ready_cl m.id box h0 h.blk1 hTm hw m.bod _ m.leased (fun n => look_msg (hM.move rfl) hw (hr.get hi h1)) e
  | none =>
    have hno : ∀ m ∈ σ.l, m.id ≠ x := fun m hm e => by
      have := List.find?_eq_none.1 hf m hm
      simp [e] at this
    have e : itAt ti x = (0, false) := by
      rw [hr.ls hi]
      unfold qLs
      rw [List.find?_eq_none.2 (fun m hm => by simp [hno m hm])]
    have hd : delP σ x = (false || decide (σ.now < 0)) := by
      unfold delP
      rw [hf, decide_eq_false (by have := hi.now; omega)]
      rfl
    rw [hd]
    refine ready_cl x box h0 h.blk1 hTm hw (ByteArray.empty, (ByteArray.empty, (0, (0, 0)))) 0 false (fun n => ?_) e
    have := (show MapAt KI encQ (w.drewN n) mb ms from hM.move rfl).look1 under_qu (zero_msg _) (a := x) hw
    rw [hr.getNone hno] at this
    exact this
theorem Hp.delReady {box mb lb tb sb T' : Nat} {ms : List (Int × Bod)} {s : List En} {ti : List It} {r : List (Ent Int)} {A : Option Addr} {n cap : Nat} {l : List Int} (h : Hp w0 w (AInt (.slice A n cap) l :: ABlk box (boxQ qb) :: ABlk qb (quObj σ mb lb tb sb) :: AMp mb ms :: ALn lb s T' :: ATm tb ti :: ALdI sb 4096 r :: Ps)) (hi : QInv σ T) (hr : QRel σ ms s ti r) (hwf : ∀ x ∈ l, (Lit.int .i64 x).wf = true) :
    Calls Tryz.prog 216 #[.slice A n cap, .func (.func 221) #[] #[.pointer (some ⟨box, 0, none⟩)]] w fun e w' => e = .returned (.slice A (l.filter (fun x => !delP σ x)).length cap) ∧ Hp w0 w' (AInt (.slice A (l.filter (fun x => !delP σ x)).length cap) (l.filter (fun x => !delP σ x)) :: ABlk box (boxQ qb) :: ABlk qb (quObj σ mb lb tb sb) :: AMp mb ms :: ALn lb s T' :: ATm tb ti :: ALdI sb 4096 r :: Ps) := by
  obtain ⟨hn, hcap, hC⟩ := Kd.R_reads' h.head
  have hm := Kd.C_max hC
  subst hn
  rcases Nat.eq_zero_or_pos l.length with h0 | h0
  · have hl0 := List.eq_nil_of_length_eq_zero h0
    subst hl0
    refine Calls.mono (del_none A cap _ w) ?_
    rintro e w' ⟨rfl, rfl⟩
    exact ⟨rfl, h⟩
  · obtain ⟨S1, h1, h2⟩ := h.use1
    have hR : (Kd.int .i64).R 3 w 0 S1 (.slice A l.length cap) l := h1
    obtain ⟨g, cap', hv, hbg, hgl, cells, hg⟩ := Kd.R_form hR (by omega)
    injection hv with hA hx hc
    subst hA hc
    have hokg := hR.1 g rfl
    have ho := Kd.own_of_R hR
    rcases ho.2 with ⟨hv, _⟩ | ⟨g', cap', cur, hv, hb, hh, g1, g2, g3, g4⟩
    · cases hv
    injection hv with ha _ hc'
    injection ha with ha
    injection ha with ha
    subst ha hc'
    rw [Nat.mul_one] at g3 g4
    have g4 : cur.toList.take l.length = l.map (Value.int .i64) := g4
    obtain ⟨lw, hlw⟩ := wids hwf
    subst hlw
    rw [List.length_map] at *
    have eg : ∀ args w, (callFunc 221 args).run Tryz.prog w = .ok (.enter 221 args) w := enters_of Tryz.func221 (by kernel_rfl) rfl
    have hS : ∀ S' : Nat → Prop, (AInt (.slice (some ⟨g, 0, none⟩) lw.length cap) (lw.map (·.1))).pred w S' → ∀ k, k = g → S' k := fun S' hp k hk => hk ▸ hp.1 g rfl
    have hPO : Go.Proofs.PredOver Tryz.prog 221 #[.pointer (some ⟨box, 0, none⟩)] encW (fun x : Wid => delP σ x.1) g 0 lw.toArray.size w := by
      intro q os dk x _
      have hgb := Go.grownBy_sortedI (w := w) (g := g) (n := q) (os := os) (dk.map (·.1))
      rw [sortWorld_wid]
      exact ready_gives (h.others hS ⟨hgb.os, hgb.tape, hgb.output, hgb.size, fun k hk hn => hgb.block k hk (fun e => hn (Option.some.inj e))⟩) hi hr x
    have hPA : Go.Proofs.PredAt Tryz.prog 221 #[.pointer (some ⟨box, 0, none⟩)] encW (fun x : Wid => delP σ x.1) w := fun W x hb => ready_gives (h.below hb).tail hi hr x
    have hH : Holds encW w g 0 lw.toArray := holds_wid (by
      have := Go.holds_of_blockI (ss := lw.map (·.1)) hh (by rw [List.length_map]; exact g4)
      simpa using this)
    have hcon := AnyE.slices_DeleteFunc Tryz.delInt encW (fun _ => rfl) (fun x : Wid => delP σ x.1) 221 #[.pointer (some ⟨box, 0, none⟩)] eg ⟨0, rfl⟩ Tryz.zeroValue3 g 0 cap lw.toArray w hPA hPO hH (by simpa using hm) (by simpa using hcap)
    have hfl := List.length_filter_le (fun x : Wid => !delP σ x.1) lw
    have hfe : (lw.map (·.1)).filter (fun x => !delP σ x) = (lw.filter (fun x : Wid => !delP σ x.1)).map (·.1) := by rw [List.filter_map]; rfl
    rw [hfe]
    generalize hys : lw.filter (fun x : Wid => !delP σ x.1) = ys at *
    have hyl : (ys.map (·.1)).length = ys.length := List.length_map ..
    rw [show lw.toArray.size = lw.length by simp] at hcon
    rw [hyl]
    refine Calls.mono hcon ?_
    rintro e w' ⟨rfl, q, rfl⟩
    obtain ⟨D, hD⟩ : ∃ D : List Wid, D = ys ++ List.replicate (lw.length - ys.length) ⟨0, rfl⟩ := ⟨_, rfl⟩
    rw [← hD]
    have hdl : (D.map (·.1)).length = lw.length := by rw [List.length_map, hD]; simp; omega
    have hw : putRow encW (Go.Sort.ahead w q) g 0 D.toArray = putRow (Value.int .i64) (Go.Sort.ahead w q) g 0 (D.map (·.1)).toArray := by
      have := sortWorld_wid w g 0 q D.toArray #[]
      unfold sortWorld at this
      rw [grow_empty, grow_empty] at this
      rw [this]
      simp
    rw [hw]
    have hheap := Go.heap_sortedI (w := w) (g := g) (n := q) (os := #[]) (D.map (·.1)).toArray hh
    have hgb := Go.grownBy_sortedI (w := w) (g := g) (n := q) (os := #[]) (D.map (·.1)).toArray
    rw [grow_empty] at hheap hgb
    have htk := Go.take_putCellsI cur (D.map (·.1)) (by rw [hdl]; omega)
    refine ⟨rfl, h2 _ (AInt (.slice (some ⟨g, 0, none⟩) ys.length cap) (ys.map (·.1))) ⟨hgb.os, hgb.tape, hgb.output, hgb.size, fun k hk hn => hgb.block k hk (fun e => hn ((Option.some.inj e) ▸ hokg))⟩ ?_⟩
    refine Kd.R_mono (ok := S1) (Kd.R_of_own ⟨by rw [encs_length, Nat.mul_one], .inr ⟨g, cap, _, by rw [hyl], hb, hheap, by omega, g2, by simpa [putCells] using g3, ?_⟩⟩ hR.1) (fun _ hk => .inl hk)
    rw [Nat.mul_one, hyl]
    have := congrArg (List.take ys.length) htk
    rw [List.take_take, hdl, Nat.min_eq_left hfl] at this
    rw [this, hD, List.map_append, List.map_append, List.take_append_of_le_length (by simp), List.take_of_length_le (by simp)]
    rfl
end
end Go.Proofs.YtipdleiginnjmaaGreatDoor
namespace Go.Proofs.YtipdleiginnjmaaGreatDoor
open Go.RowKit Go.Maps Go.Proofs.YtipdleiginnjmaaGreatDoorW.PrintWords
section
variable {w0 w : World} {qb T : Nat} {σ : Qs} {Ps : List Asn}
theorem run_max3 (a b c m : Int) (hm : m = max (max a b) c) : ∀ ts t W, (Builtin.max_ ts t #[.int .i64 a, .int .i64 b, .int .i64 c]).run Tryz.prog W = .ok (.int .i64 m) W := by
  intro ts t W
  subst hm
  simp [Builtin.max_, Builtin.max2]
  by_cases h : a < b
  · simp only [h, if_true]; split <;> omega
  · simp only [h, if_false]; split <;> omega
set_option maxHeartbeats 1600000 in
set_option maxRecDepth 100000 in
theorem may_at (a : QA) (qb : Nat) (body group key : ByteArray) (delay : Int) (w : World) (q6 : w.cell? ⟨qb, 6, none⟩ = some (.bool a.fifo)) :
    Calls Tryz.prog 153 #[.pointer (some ⟨qb, 0, none⟩), .string body, .string group, .string key, .int .i64 delay] w fun e w' => e = .returned (.bool (qMaySend a body group key delay)) ∧ w = w' := by
  obtain ⟨m, hm⟩ : ∃ m : Int, m = max (max (body.size : Int) group.size) key.size := ⟨_, rfl⟩
  have hmx := run_max3 body.size group.size key.size m hm
  obtain ⟨R, hR⟩ : ∃ R, R = qMaySend a body group key delay := ⟨_, rfl⟩
  rw [← hR]
  have HR := Lib.hid hR
  have HM := Lib.hid hm
  clear hm hR
  have hme := isEmpty_size group
  by_cases h1 : m > 256
  case' pos =>
    obtain rfl : R = false := by
      rw [HR.out]
      unfold qMaySend
      rw [decide_eq_false (by have := HM.out; omega)]
      rfl
    clear hme
  case' neg =>
    have hsz : body.size ≤ 256 ∧ group.size ≤ 256 ∧ key.size ≤ 256 := by have := HM.out; omega
    have HR := Lib.hid (show R = (if a.fifo then decide (0 < group.size ∧ delay = -1) else decide (group.size = 0 ∧ -1 ≤ delay ∧ delay ≤ 1048576)) by
      rw [HR.out]
      unfold qMaySend
      rw [decide_eq_true hsz]
      rfl)
    cases hf : a.fifo
    case' true =>
      by_cases hg : group.size = 0
      case' pos =>
        obtain rfl : R = false := by rw [HR.out, hf, if_pos rfl, decide_eq_false (by omega)]
        have hg1 := nil_size hg
        rw [decide_eq_true hg] at hme
      case' neg =>
        rw [decide_eq_false hg] at hme
        have hme2 : (!group.toList.isEmpty) = true := by rw [hme]; rfl
        by_cases hd : delay = -1
        case' pos =>
          obtain rfl : R = true := by rw [HR.out, hf, if_pos rfl, decide_eq_true (by omega)]
          have hd1 : (delay == -1) = true := by rw [hd]; rfl
          clear hd
        case' neg =>
          obtain rfl : R = false := by rw [HR.out, hf, if_pos rfl, decide_eq_false (by omega)]
          have hd1 : (delay == -1) = false := by simpa using hd
          clear hd
    case' false =>
      by_cases hg : group.size = 0
      case' neg =>
        obtain rfl : R = false := by rw [HR.out, hf, if_neg (by decide), decide_eq_false (by omega)]
        rw [decide_eq_false hg] at hme
      case' pos =>
        have hg1 := nil_size hg
        rw [decide_eq_true hg] at hme
        by_cases hd : -1 ≤ delay
        case' neg => obtain rfl : R = false := by rw [HR.out, hf, if_neg (by decide), decide_eq_false (by omega)]
        case' pos =>
          by_cases hd2 : delay ≤ 1048576
          case' neg => obtain rfl : R = false := by rw [HR.out, hf, if_neg (by decide), decide_eq_false (by omega)]
          case' pos => obtain rfl : R = true := by rw [HR.out, hf, if_neg (by decide), decide_eq_true (by omega)]
  all_goals
    try rw [hf] at q6
    try clear hf
    try clear hg
    try clear hsz
    go_enter Tryz.func153, Tryz.ntmps153
    go_wp2_with fail
    go_ret
    exact ⟨rfl, rfl⟩
end
end Go.Proofs.YtipdleiginnjmaaGreatDoor
namespace Go.Proofs.YtipdleiginnjmaaGreatDoor
open Go.RowKit Go.Maps Go.Proofs.YtipdleiginnjmaaGreatDoorW.PrintWords
section
variable {w0 w : World} {qb T : Nat} {σ : Qs} {Ps : List Asn}
theorem quCells_next (σ : Qs) (mb lb tb sb : Nat) (n : Int) : (quCells σ mb lb tb sb).setIfInBounds 8 (.int .i64 n) = quCells { σ with next := n } mb lb tb sb := by
  unfold quCells QA.cells
  simp
theorem hasKey_none {r : List (Ent Int)} {k : ByteArray} (h : mget r k = none) : hasKey r k = false := by rw [has_get, h]; rfl
theorem lAdd_new {s : List En} {g : ByteArray} {id t : Int} (h : hasEn s id = false) : lAdd s g id t = s ++ [(id, (g, t))] := by unfold lAdd; rw [h]; rfl
/-- The queue's cells that Send reads. -/
theorem sendCells {mb lb tb sb T' : Nat} {ms : List (Int × Bod)} {s : List En} {ti : List It} {r : List (Ent Int)} (h1 : Hp w0 w (ABlk qb (quObj σ mb lb tb sb) :: AMp mb ms :: ALn lb s T' :: ATm tb ti :: ALdI sb 4096 r :: Ps)) :
    MapAt KI encQ w mb ms ∧ w.cell? ⟨qb, 9, none⟩ = some (.map (some mb)) ∧ w.cell? ⟨qb, 3, none⟩ = some (.int .i64 σ.a.win) ∧ w.cell? ⟨qb, 12, none⟩ = some (.pointer (some ⟨sb, 0, none⟩)) ∧ w.cell? ⟨qb, 2, none⟩ = some (.int .i64 σ.a.del) ∧ w.cell? ⟨qb, 8, none⟩ = some (.int .i64 σ.next) ∧ w.frozen? ⟨qb, 8, none⟩ = false :=
  ⟨(h1.swap.head : (AMp mb ms).pred _ _).2, blk_cell h1.blk0 9, blk_cell h1.blk0 3, blk_cell h1.blk0 12, blk_cell h1.blk0 2, blk_cell h1.blk0 8, blk_frozen h1.blk0 8⟩
set_option maxHeartbeats 3200000 in
set_option maxRecDepth 100000 in
theorem Hp.sendFull {mb lb tb sb T' : Nat} {ms : List (Int × Bod)} {s : List En} {ti : List It} {r : List (Ent Int)} (hP : Hp w0 w (ABlk qb (quObj σ mb lb tb sb) :: AMp mb ms :: ALn lb s T' :: ATm tb ti :: ALdI sb 4096 r :: Ps)) (body group key : ByteArray) (delay : Int) (hk : key.size ≤ maxLen)
    (hmay : qMaySend σ.a body group key delay = true) (hmg : mget r key = none) (hc : (key.size = 0 ∧ 1024 ≤ ms.length) ∨ ((key.size ≠ 0 ∧ ¬ 0 < σ.a.win ∧ 1024 ≤ ms.length) ∨ ((key.size ≠ 0 ∧ 0 < σ.a.win ∧ 1024 ≤ ms.length) ∨ (key.size ≠ 0 ∧ 0 < σ.a.win ∧ ¬ 1024 ≤ ms.length ∧ 4096 ≤ r.length)))) :
    Calls Tryz.prog 114 #[.pointer (some ⟨qb, 0, none⟩), .string body, .string group, .string key, .int .i64 delay] w fun e w' => e = .returned (.tuple #[.int .i64 0, .int .i64 5]) ∧ Hp w0 w' (ABlk qb (quObj σ mb lb tb sb) :: AMp mb ms :: ALn lb s T' :: ATm tb ti :: ALdI sb 4096 r :: Ps) := by
  have hm1 := may_at σ.a qb body group key delay w (blk_cell hP.blk0 6)
  rw [hmay] at hm1
  have HMAY := Lib.hid hm1
  have q12 : w.cell? ⟨qb, 12, none⟩ = some (.pointer (some ⟨sb, 0, none⟩)) := blk_cell hP.blk0 12
  have HP := Lib.hid hP
  have HG := Lib.hid (show ldIGet r key = ((0, 0), false) by unfold ldIGet; rw [hmg])
  obtain ⟨ml, hml⟩ : ∃ ml, ml = ms.length := ⟨_, rfl⟩
  obtain ⟨rl, hrl⟩ : ∃ rl, rl = r.length := ⟨_, rfl⟩
  rw [← hml, ← hrl] at hc
  have HML := Lib.hid hml
  have HRL := Lib.hid hrl
  have hie := isEmpty_size key
  clear hP hm1 hmay hmg hml hrl
  rcases hc with ⟨k1, f1⟩ | (⟨k1, k2, f1⟩ | (⟨k1, k2, f1⟩ | ⟨k1, k2, f1, f2⟩))
  all_goals
    first
      | (rw [decide_eq_true k1] at hie; have hk0 := nil_size k1)
      | rw [decide_eq_false k1] at hie
    clear k1
    first
      | have g1 : (1024 : Int) ≤ ml := by omega
      | (have g1 : ¬ (1024 : Int) ≤ ml := by omega
         have g2 : (4096 : Int) ≤ rl := by omega)
    clear f1
    go_enter Tryz.func114, Tryz.ntmps114
    go_wp2_with fail
    refine Calls.mono HMAY.out ?_
    rintro e w2 ⟨rfl, rfl⟩
    go_wp2_with fail
    refine Calls.mono (HP.out.up4.ldIGetC key hk) ?_
    rintro e w3 ⟨rfl, hP3⟩
    rw [HG.out]
    have HP3 := Lib.hid hP3.down4
    obtain ⟨hM, q9, q3, q12', q2, q8, z8⟩ := sendCells HP3.out
    have HM := Lib.hid hM
    clear hP3 hM q12
    go_wp2_with (first
      | (refine wpList_len_at (K := KI) (enc := encQ) HM.out (by rfl) (.tmp 51) 107 161 rfl under_qu rfl ?_; rw [← HML.out])
      | (go_at_call 155; refine Calls.mono HP3.out.up4.ldILen ?_; rintro e w' ⟨rfl, rfl⟩; rw [← HRL.out]))
    go_ret2
    exact ⟨rfl, HP3.out⟩
set_option maxHeartbeats 800000 in
set_option maxRecDepth 100000 in
theorem Hp.sendNot (h : Hp w0 w (AQu qb σ T :: Ps)) (body group key : ByteArray) (delay : Int) (hmay : qMaySend σ.a body group key delay = false) :
    Calls Tryz.prog 114 #[.pointer (some ⟨qb, 0, none⟩), .string body, .string group, .string key, .int .i64 delay] w fun e w' => e = .returned (.tuple #[.int .i64 0, .int .i64 1]) ∧ Hp w0 w' (AQu qb σ T :: Ps) := by
  have H := Lib.hid h
  obtain ⟨mb, lb, tb, sb, T', ms, s, ti, r, hi, hr, hT, hP⟩ := h.quOpen'
  have hm1 := may_at σ.a qb body group key delay w (blk_cell hP.blk0 6)
  rw [hmay] at hm1
  have HMAY := Lib.hid hm1
  clear h hP hi hr hm1 hmay
  go_enter Tryz.func114, Tryz.ntmps114
  go_wp2_with fail
  refine Calls.mono HMAY.out ?_
  rintro e w2 ⟨rfl, rfl⟩
  go_wp2_with fail
  go_ret2
  exact ⟨rfl, H.out⟩
set_option maxHeartbeats 800000 in
set_option maxRecDepth 100000 in
theorem Hp.sendKnown (h : Hp w0 w (AQu qb σ T :: Ps)) (body group key : ByteArray) (delay : Int) (hk : key.size ≤ maxLen) (hmay : qMaySend σ.a body group key delay = true) (x : Int × Int) (hmg : mget σ.k key = some x) :
    Calls Tryz.prog 114 #[.pointer (some ⟨qb, 0, none⟩), .string body, .string group, .string key, .int .i64 delay] w fun e w' => e = .returned (.tuple #[.int .i64 x.1, .int .i64 0]) ∧ Hp w0 w' (AQu qb σ T :: Ps) := by
  obtain ⟨mb, lb, tb, sb, T', ms, s, ti, r, hi, hr, hT, hP⟩ := h.quOpen'
  have hm1 := may_at σ.a qb body group key delay w (blk_cell hP.blk0 6)
  rw [hmay] at hm1
  have HMAY := Lib.hid hm1
  have q12 : w.cell? ⟨qb, 12, none⟩ = some (.pointer (some ⟨sb, 0, none⟩)) := blk_cell hP.blk0 12
  have HP := Lib.hid hP
  have HI := Lib.hid hi
  have HR := Lib.hid hr
  have HG := Lib.hid (show ldIGet r key = (x, true) by unfold ldIGet; rw [hr.key hi key, hmg])
  have hke := hi.kne _ (mget_some hmg)
  have hie := isEmpty_size key
  rw [decide_eq_false (by have := hke.1; dsimp only at this; omega)] at hie
  clear h hP hi hr hm1 hmay hmg hke
  go_enter Tryz.func114, Tryz.ntmps114
  go_wp2_with fail
  refine Calls.mono HMAY.out ?_
  rintro e w2 ⟨rfl, rfl⟩
  go_wp2_with fail
  refine Calls.mono (HP.out.up4.ldIGetC key hk) ?_
  rintro e w3 ⟨rfl, hP3⟩
  rw [HG.out]
  have HP3 := Lib.hid hP3.down4
  clear hP3
  go_wp2_with fail
  go_ret2
  exact ⟨rfl, Hp.quShut' HP3.out HI.out HR.out hT⟩
end
end Go.Proofs.YtipdleiginnjmaaGreatDoor
namespace Go.Proofs.YtipdleiginnjmaaGreatDoor
open Go.RowKit Go.Maps Go.Proofs.YtipdleiginnjmaaGreatDoorW.PrintWords
section
variable {w0 w : World} {qb T : Nat} {σ : Qs} {Ps : List Asn}
set_option maxHeartbeats 1600000 in
set_option maxRecDepth 100000 in
theorem Hp.quReady (h : Hp w0 w (AQu qb σ T :: Ps)) (hT6 : T ≤ 1000000) :
    Calls Tryz.prog 197 #[.pointer (some ⟨qb, 0, none⟩)] w fun e w' => ∃ n A c, n = (qReady σ).length ∧ e = .returned (.slice A n c) ∧ Hp w0 w' (AInt (.slice A n c) ((qReady σ).map (·.id)) :: AQu qb σ T :: Ps) := by
  obtain ⟨mb, lb, tb, sb, T', ms, s, ti, r, hi, hr, hT, hP⟩ := h.quOpen'
  have hql := blk_lt hP.blk0
  have hA := hP.alloc (boxQ qb)
  have b0 : (w.alloc (boxQ qb)).cell? ⟨w.heap.size, 0, none⟩ = some (.pointer (some ⟨qb, 0, none⟩)) := blk_cell hA.blk0 0
  have q10 : (w.alloc (boxQ qb)).cell? ⟨qb, 10, none⟩ = some (.pointer (some ⟨lb, 0, none⟩)) := blk_cell hA.blk1 10
  have HA := Lib.hid hA.up3
  have HI := Lib.hid hi
  have HR := Lib.hid hr
  have hlen := hi.len
  clear h hP hi hr hA
  have HF1 := Lib.hid (show (σ.l.map (·.id)) = ((σ.l.filter (fun _ => true)).map (·.id)) by rw [List.filter_eq_self.2 (fun _ _ => rfl)])
  cases hf : σ.a.fifo
  case false =>
    have HQ := Lib.hid (show (s.map (·.1)).filter (fun x => !delP σ x) = (qReady σ).map (·.id) by
      rw [HR.out.sIds, HF1.out, rdy_delP HI.out]
      congr 1
      apply List.filter_congr
      intro m _
      rw [hf]
      simp)
    have HWF := Lib.hid (show ∀ x ∈ s.map (·.1), (Lit.int .i64 x).wf = true from fun x hx => by
      rw [HR.out.sIds] at hx
      obtain ⟨m, hm, rfl⟩ := List.mem_map.1 hx
      exact HI.out.wf hT6 hm)
    have HF := Lib.hid hf
    clear hf
    go_enter Tryz.func197, Tryz.ntmps197
    go_wp2_with fail
    refine Calls.mono (HA.out.lnAll (by omega)) ?_
    rintro e w2 ⟨A, c, rfl, hP2⟩
    have hP2 := hP2
    have b0 : w2.cell? ⟨w.heap.size, 0, none⟩ = some (.pointer (some ⟨qb, 0, none⟩)) := blk_cell hP2.blk2 0
    have q6 : w2.cell? ⟨qb, 6, none⟩ = some (.bool σ.a.fifo) := blk_cell hP2.blk3 6
    rw [HF.out] at q6
    have HP2 := Lib.hid (hP2.perm (((List.Perm.swap _ _ _).trans ((List.Perm.swap _ _ _).cons _)).trans (((List.Perm.swap _ _ _).cons _).cons _) |>.cons _))
    clear hP2
    go_wp2_with fail
    refine Calls.mono (HP2.out.delReady HI.out HR.out HWF.out) ?_
    rintro e w3 ⟨rfl, hP3⟩
    rw [HQ.out] at hP3
    rw [HQ.out]
    rw [List.length_map] at hP3
    have HP3 := Lib.hid hP3
    clear hP3
    go_wp2_with fail
    go_ret
    exact ⟨_, A, c, rfl, rfl, (HP3.out.drop1.rot5.quShut' HI.out HR.out hT).swap⟩
  case true =>
    have HQ := Lib.hid (show ((lHeads s).map (·.1)).filter (fun x => !delP σ x) = (qReady σ).map (·.id) by
      rw [HR.out.heads HI.out, rdy_delP HI.out]
      congr 1
      apply List.filter_congr
      intro m _
      rw [hf]
      simp)
    have HWF := Lib.hid (show ∀ x ∈ (lHeads s).map (·.1), (Lit.int .i64 x).wf = true from fun x hx => by
      rw [HR.out.heads HI.out] at hx
      obtain ⟨m, hm, rfl⟩ := List.mem_map.1 hx
      exact HI.out.wf hT6 (List.mem_filter.1 hm).1)
    have HF := Lib.hid hf
    clear hf
    go_enter Tryz.func197, Tryz.ntmps197
    go_wp2_with fail
    refine Calls.mono (HA.out.lnAll (by omega)) ?_
    rintro e w2 ⟨A0, c0, rfl, hP2⟩
    have b0 : w2.cell? ⟨w.heap.size, 0, none⟩ = some (.pointer (some ⟨qb, 0, none⟩)) := blk_cell hP2.blk2 0
    have q6 : w2.cell? ⟨qb, 6, none⟩ = some (.bool σ.a.fifo) := blk_cell hP2.blk3 6
    have q10 : w2.cell? ⟨qb, 10, none⟩ = some (.pointer (some ⟨lb, 0, none⟩)) := blk_cell hP2.blk3 10
    rw [HF.out] at q6
    have HP2 := Lib.hid hP2.swap
    clear hP2
    go_wp2_with fail
    refine Calls.mono (HP2.out.lnHeads (by omega)) ?_
    rintro e w4 ⟨A, c, rfl, hP4⟩
    have HP4 := Lib.hid (hP4.drop2.perm (((List.Perm.swap _ _ _).trans ((List.Perm.swap _ _ _).cons _)).trans (((List.Perm.swap _ _ _).cons _).cons _) |>.cons _))
    clear hP4 b0 q6 q10
    go_wp2_with fail
    have hlh : (lHeads s).length = ((lHeads s).map (·.1)).length := (List.length_map ..).symm
    refine Calls.mono (HP4.out.delReady HI.out HR.out HWF.out) ?_
    rintro e w3 ⟨rfl, hP3⟩
    rw [HQ.out] at hP3
    rw [HQ.out]
    rw [List.length_map] at hP3
    have HP3 := Lib.hid hP3
    clear hP3 hlh
    go_wp2_with fail
    go_ret
    exact ⟨_, A, c, rfl, rfl, (HP3.out.drop1.rot5.quShut' HI.out HR.out hT).swap⟩
theorem QInv.recvs (h : QInv σ T) (ds : List Msg) {till : Int} (ht : 0 ≤ till ∧ till ≤ 2199023255552) : QInv (qRecvs σ ds till) (T + 1) := by
  refine (h.mono (Nat.le_succ T)).map (f := fun m => if ds.any (fun x => decide (x.id = m.id)) then m.take till else m) (fun m hm => ?_)
  have h1 := h.cnt m hm
  have h2 := h.at_ m hm
  have h3 := h.till m hm
  split
  · refine ⟨rfl, ⟨?_, ?_⟩, rfl, h2, ⟨?_, ?_⟩, rfl, rfl⟩ <;> simp only [Msg.take] <;> omega
  · exact ⟨rfl, by omega, rfl, h2, h3, rfl, rfl⟩
def KTk : Kd Tk := Kd.pair (Kd.int .i64) (Kd.pair (Kd.int .i64) (Kd.pair Kd.string (Kd.pair Kd.string Kd.string)))
theorem KTk_of (w : World) (base : Nat) (ok : Nat → Prop) (x : Tk) : KTk.M w base ok x [.int .i64 x.1, .int .i64 x.2.1, .string x.2.2.1, .string x.2.2.2.1, .string x.2.2.2.2] := ⟨[_], [_, _, _, _], rfl, rfl, [_], [_, _, _], rfl, rfl, [_], [_, _], rfl, rfl, [_], [_], rfl, rfl, rfl⟩
theorem info_took : (Tryz.prog.info? 45).map (fun i => (i.zero, i.size, i.bytes)) = some (some (.agg #[.int .i64 0, .int .i64 0, .string ⟨#[]⟩, .string ⟨#[]⟩, .string ⟨#[]⟩]), 5, 64) := by kernel_rfl
end
end Go.Proofs.YtipdleiginnjmaaGreatDoor
namespace Go.Proofs.YtipdleiginnjmaaGreatDoor
open Go.RowKit Go.Maps Go.Proofs.YtipdleiginnjmaaGreatDoorW.PrintWords
section
variable {w0 w : World} {qb T : Nat} {σ : Qs} {Ps : List Asn}
theorem Hp.up6 {P Q R S U V W : Asn} (h : Hp w0 w (P :: Q :: R :: S :: U :: V :: W :: Ps)) : Hp w0 w (W :: P :: Q :: R :: S :: U :: V :: Ps) := h.perm (List.perm_middle (l₁ := [P, Q, R, S, U, V]))
theorem Hp.quMono (h : Hp w0 w (AQu qb σ T :: Ps)) {T' : Nat} (ht : T ≤ T') : Hp w0 w (AQu qb σ T' :: Ps) := by
  obtain ⟨mb, lb, tb, sb, T0, ms, s, ti, r, hi, hr, hT, hP⟩ := h.quOpen'
  exact hP.quShut' (hi.mono ht) hr (by omega)
theorem receipt_below (id count : Int) (T : Nat) (w : World) (hr : RecOk w T) (hi : 0 ≤ id ∧ id ≤ T + 1) (hc : 0 ≤ count ∧ count ≤ T + 1) :
    Calls Tryz.prog 198 #[.int .i64 id, .int .i64 count] w fun e w' => e = .returned (.string (receipt id count)) ∧ Below w.heap.size w w' :=
  Calls.mono (receipt_any id count T w hr hi hc) (fun _ _ ⟨h1, n, os, h2⟩ => ⟨h1, h2 ▸ gr_below w n os⟩)
theorem take_ne {l : List Msg} (hn : (l.map (·.id)).Nodup) {j : Nat} {m : Msg} (h : l[j]? = some m) : ∀ x ∈ l.take j, x.id ≠ m.id := by
  intro x hx e
  obtain ⟨i, hi, rfl⟩ := List.getElem_of_mem hx
  rw [List.length_take] at hi
  rw [List.getElem_take] at e
  obtain ⟨hj, rfl⟩ := List.getElem?_eq_some_iff.1 h
  have h1 : (l.map (·.id))[i]'(by rw [List.length_map]; omega) = (l.map (·.id))[j]'(by rw [List.length_map]; exact hj) := by rw [List.getElem_map, List.getElem_map]; exact e
  have := (List.getElem_inj hn).1 h1
  omega
theorem C_one_tk {w : World} {g t : Nat} (x : Tk) (h : w.heap[g]? = some (.cells #[.int .i64 x.1, .int .i64 x.2.1, .string x.2.2.1, .string x.2.2.2.1, .string x.2.2.2.2] t (0, 0))) : KTk.C w (some ⟨g, 0, none⟩) 1 [x] := by
  refine ⟨rfl, by omega, fun _ => ⟨_, rfl, fun j y hj => ?_⟩⟩
  match j, hj with
  | 0, hj =>
    obtain rfl := Option.some.inj hj
    refine ⟨[.int .i64 x.1, .int .i64 x.2.1, .string x.2.2.1, .string x.2.2.2.1, .string x.2.2.2.2], rfl, ⟨[_], [_, _, _, _], rfl, rfl, [_], [_, _, _], rfl, rfl, [_], [_, _], rfl, rfl, [_], [_], rfl, rfl, rfl⟩, fun i u hu => ?_⟩
    rw [add_plain, blk_cell h]
    rw [← Array.getElem?_toList]
    simpa using hu
  | j + 1, hj => simp at hj
abbrev ATk (v : Value) (l : List Tk) : Asn := ARow KTk 45 v l
set_option maxHeartbeats 800000 in
set_option maxRecDepth 100000 in
theorem Hp.rcvNot (_ : Hp w0 w (AQu qb σ T :: Ps)) (n vis : Int) (hn : qMayRecv n vis = false) :
    Calls Tryz.prog 158 #[.pointer (some ⟨qb, 0, none⟩), .int .i64 n, .int .i64 vis] w fun e w' => e = .returned (.tuple #[.slice none 0 0, .int .i64 1]) ∧ w = w' := by
  unfold qMayRecv at hn
  rw [decide_eq_false_iff_not] at hn
  have hc : n < 1 ∨ ((¬ n < 1 ∧ 10 < n) ∨ (¬ n < 1 ∧ ¬ 10 < n ∧ spanB vis 0 = false)) := by
    by_cases h1 : n < 1
    · exact .inl h1
    · by_cases h2 : 10 < n
      · exact .inr (.inl ⟨h1, h2⟩)
      · exact .inr (.inr ⟨h1, h2, decide_eq_false (by omega)⟩)
  clear hn
  rcases hc with h1 | (⟨h1, h2⟩ | ⟨h1, h2, h3⟩)
  all_goals
    go_enter Tryz.func158, Tryz.ntmps158
    go_wp2_with (go_at_call 160; refine Calls.mono (span_any _ _ _) ?_; rintro e w' ⟨rfl, rfl⟩)
    go_ret2
    exact ⟨rfl, rfl⟩
set_option maxHeartbeats 3200000 in
set_option maxRecDepth 100000 in
theorem Hp.rcvDo (h : Hp w0 w (AQu qb σ T :: Ps)) (hrec : RecOk w0 T) (nn : Nat) (vis vs : Int) (hn : 1 ≤ nn ∧ nn ≤ 10) (hv : 0 ≤ vis ∧ vis ≤ 1048576) (hvs : vs = if vis = 0 then σ.a.vis else vis) (hvb : 0 ≤ vs ∧ vs ≤ 1048576) :
    Calls Tryz.prog 158 #[.pointer (some ⟨qb, 0, none⟩), .int .i64 (nn : Int), .int .i64 vis] w fun e w' => ∃ A k c, k = (qTook σ nn).length ∧ e = .returned (.tuple #[.slice A k c, .int .i64 0]) ∧ Hp w0 w' (ATk (.slice A k c) ((qTook σ nn).map Msg.tk) :: AQu qb (qRecvs σ (qTook σ nn) (σ.now + vs)) (T + 1) :: Ps) := by
  have H := Lib.hid h
  have HREC := Lib.hid hrec
  obtain ⟨mb0, lb0, tb0, sb0, T0, ms0, s0, ti0, r0, hi, _, _, hP⟩ := h.quOpen'
  have HI := Lib.hid hi
  have hT6 := hrec.num
  have hnow := hi.now
  have q0 : w.cell? ⟨qb, 0, none⟩ = some (.int .i64 σ.a.vis) := blk_cell hP.blk0 0
  have hsp : spanB vis 0 = true := decide_eq_true hv
  have hQL := Lib.hid (show (qReady σ).length ≤ 1024 from Nat.le_trans (List.length_filter_le _ _) hi.len)
  have HS1 := Lib.hid (show IntKind.i64.wrap (σ.now + vs) = σ.now + vs from IntWalk.i64_in _ (by omega))
  obtain ⟨i64, hi64, _⟩ := Option.map_eq_some_iff.1 info_int
  have HI64 := Lib.hid hi64
  have mixed : Tryz.prog.follows .mixedOrders = true := by kernel_rfl
  clear h hrec hi hP hi64
  have hvc : (vis = 0 ∧ σ.a.vis = vs) ∨ (vis ≠ 0 ∧ vis = vs) := by
    by_cases h : vis = 0
    · exact .inl ⟨h, by rw [hvs, if_pos h]⟩
    · exact .inr ⟨h, by rw [hvs, if_neg h]⟩
  clear hvs
  have hn1 : ¬ (nn : Int) < 1 := by omega
  have hn2 : ¬ (10 : Int) < nn := by omega
  rcases hvc with ⟨h1, h2⟩ | ⟨h1, h2⟩
  case' inl =>
    rw [h2] at q0
    have hve : (vis == 0) = true := by rw [h1]; rfl
    clear h1 h2
  case' inr =>
    have hve : (vs == 0) = false := by rw [← h2]; simpa using h1
    have h3 := h2.symm
    subst h3
    clear h1 h2
  all_goals
    go_enter Tryz.func158, Tryz.ntmps158
    go_wp2_with (go_at_call 160; refine Calls.mono (span_any _ _ _) ?_; rintro e w' ⟨rfl, rfl⟩)
    refine Calls.mono (H.out.quReady hT6) ?_
    rintro e w2 ⟨m, A, c, hm, rfl, hP2⟩
    have HM := Lib.hid hm
    have hml : m ≤ 1024 := by rw [hm]; exact hQL.out
    obtain ⟨k, hk⟩ : ∃ k, k = min nn m := ⟨_, rfl⟩
    have hmn : ∀ ts t W, (Builtin.min_ ts t #[.int .i64 (nn : Int), .int .i64 (m : Int)]).run Tryz.prog W = .ok (.int .i64 (k : Int)) W := by
      intro ts t W
      rw [run_min_int2]
      split <;> (congr 2; omega)
    have hkm : k ≤ m := by omega
    obtain ⟨cR, hmc, hC⟩ := Kd.R_reads' hP2.head
    have hsl := (take_row (P := Tryz.prog) 33 3 Tryz.underlying33 HI64.out k (n := m) (by omega) hmc (by rw [cR]; exact hC)).1
    have HK := Lib.hid hk
    have HP2 := Lib.hid hP2
    clear hP2 hm hk cR hC q0
    go_wp2_with fail
    go_loopw [40, 9] (fun i u9 wr => ∃ j : Nat, i = .int .i64 j ∧ j ≤ k ∧ Hp w0 wr (ATk u9 (((qReady σ).take j).map Msg.tk) :: AInt (.slice A m c) ((qReady σ).map (·.id)) :: AQu qb (qRecvs σ ((qReady σ).take j) (σ.now + vs)) (T + 1) :: Ps)) (fun i _ _ => k - (intOf i).toNat)
    case atStart => exact ⟨0, rfl, Nat.zero_le _, by rw [List.take_zero, qRecvs_nil]; exact (HP2.out.swap.quMono (Nat.le_succ T)).swap.fresh (Below.refl _ _) (Kd.R_nil _ _ _ _ _)⟩
    case round =>
      obtain ⟨j, rfl, hj, hQ⟩ := hrel
      have HQ := Lib.hid hQ
      clear hQ
      by_cases hjk : j < k
      · obtain ⟨ad, x, rfl, hx, d0⟩ := C_nth_int (Kd.R_reads' HQ.out.tail.head).2.2 j (by rw [List.length_map]; have := HM.out; omega)
        obtain ⟨mm, hmm, rfl⟩ : ∃ mm, (qReady σ)[j]? = some mm ∧ mm.id = x := by
          rw [List.getElem?_map] at hx
          exact Option.map_eq_some_iff.1 hx
        have i0 : (0 : Int) ≤ (j : Int) := by omega
        have i1 : (j : Int) < (k : Int) := by omega
        have hml2 := (List.mem_filter.1 (mem_at hmm)).1
        have HNE := Lib.hid (take_ne (rdy_nodup HI.out) hmm)
        have HTK := Lib.hid (take_snoc' hmm)
        have hwf := HI.out.wf hT6 hml2
        have hcnt := HI.out.cnt mm hml2
        have hids := HI.out.ids mm hml2
        have hnx := HI.out.nxt
        obtain ⟨σj, hσj⟩ : ∃ σj, σj = qRecvs σ ((qReady σ).take j) (σ.now + vs) := ⟨_, rfl⟩
        have HMJ := Lib.hid (show mm ∈ σj.l by rw [hσj]; exact qRecvs_mem hml2 HNE.out)
        have HIJ := Lib.hid (show QInv σj (T + 1) by rw [hσj]; exact HI.out.recvs _ (by omega))
        have HST := Lib.hid (show qRecvs σ ((qReady σ).take (j + 1)) (σ.now + vs) = qUp σj mm.id (fun x => x.take (σ.now + vs)) by rw [HTK.out, hσj]; exact qRecvs_snoc HI.out hml2 HNE.out)
        have HIN := Lib.hid (show QInv (qUp σj mm.id (fun x => x.take (σ.now + vs))) (T + 1) by rw [← HST.out]; exact HI.out.recvs _ (by omega))
        have HNW := Lib.hid (show σj.now = σ.now by rw [hσj]; rfl)
        have hQ := HQ.out
        rw [← hσj] at hQ
        obtain ⟨mb, lb, tb, sb, T', ms, s, ti, r, hij, hr, hT, hP⟩ := hQ.up2.quOpen'
        have q9 : wr.cell? ⟨qb, 9, none⟩ = some (.map (some mb)) := blk_cell hP.blk0 9
        have hql := blk_lt hP.blk0
        have lk := look_msg (hP.swap.head : (AMp mb ms).pred _ _).2 hwf (hr.get hij HMJ.out)
        unfold encQ Msg.bod at lk
        dsimp only at lk
        have HR := Lib.hid hr
        have hmx : ms.length < maxLen := by have := hr.len; have := hij.len; simp [maxLen]; omega
        have htl : ti.length < 1000000 := by have := hr.tLen; have := hij.len; omega
        have HA0 := Lib.hid (hP.alloc (.cells #[.string mm.body, .string mm.group, .int .i64 mm.sent, .int .i64 (mm.count + 1), .int .i64 mm.at_] 161))
        have HRC := Lib.hid (fun w1 (h : Below w0.heap.size w0 w1) => receipt_below mm.id (mm.count + 1) T w1 (HREC.out.below h) ⟨by omega, by omega⟩ ⟨by omega, by omega⟩)
        have HTKL := Lib.hid (show (((qReady σ).take j).map Msg.tk).length ≤ 1024 by rw [List.length_map, List.length_take]; omega)
        clear hx hmm hml2 hij hr hP hQ hσj
        go_wp2_with fail
        have b0 := blk_cell HA0.out.blk0 0
        have b1 := blk_cell HA0.out.blk0 1
        have b2 := blk_cell HA0.out.blk0 2
        have b3 := blk_cell HA0.out.blk0 3
        have b4 := blk_cell HA0.out.blk0 4
        have p9 : (wr.alloc (.cells #[.string mm.body, .string mm.group, .int .i64 mm.sent, .int .i64 (mm.count + 1), .int .i64 mm.at_] 161)).cell? ⟨qb, 9, none⟩ = some (.map (some mb)) := blk_cell HA0.out.blk1 9
        simp only [List.getElem?_toArray, List.getElem?_cons_zero, List.getElem?_cons_succ] at b0 b1 b2 b3 b4
        generalize wr.alloc (.cells #[.string mm.body, .string mm.group, .int .i64 mm.sent, .int .i64 (mm.count + 1), .int .i64 mm.at_] 161) = W at *
        clear lk q9 d0
        go_still_tail 6, (by kernel_rfl)
        change wpList _ _ _ _ _ W.drew
        have HA := Lib.hid (HA0.out.below (Below.refl _ _).drew)
        refine wpList_put_at (K := KI) (enc := encQ) HA.out.up2.mapUse.1 (by rfl) (.tmp 57) (.tmp 58) (.tmp 59) 107 161 rfl under_qu hmx rfl mm.id (mm.take (σ.now + vs)).bod rfl rfl hwf ?_
        intro w6 hM6 hB6
        have hP6 := HA.out.up2.mapUse.2 w6 _ hM6 hB6
        have q11 : w6.cell? ⟨qb, 11, none⟩ = some (.pointer (some ⟨tb, 0, none⟩)) := blk_cell hP6.blk2 11
        have q7 : w6.cell? ⟨qb, 7, none⟩ = some (.int .i64 σ.now) := by rw [← HNW.out]; exact blk_cell hP6.blk2 7
        have HP6 := Lib.hid (hP6.below (Below.refl _ _).drew).up4
        clear b0 b1 b2 b3 b4 p9 hM6 hB6 hP6
        go_wp2_with fail
        go_still_tail 11, (by kernel_rfl)
        change wpList _ _ _ _ _ w6.drew
        generalize w6.drew = wd at *
        go_wp2_with fail
        rw [HS1.out]
        refine Calls.mono (HP6.out.tmSet mm.id (σ.now + vs) hwf htl) ?_
        rintro e w7 ⟨rfl, hP7⟩
        have b0 := blk_cell hP7.blk2 0
        have b1 := blk_cell hP7.blk2 1
        have b3 := blk_cell hP7.blk2 3
        simp only [List.getElem?_toArray, List.getElem?_cons_zero, List.getElem?_cons_succ] at b0 b1 b3
        have HP7 := Lib.hid hP7.up6
        clear hP7 q11 q7
        go_wp2_with fail
        go_region_held3 (fun w' => w'.cell? ⟨wr.heap.size, 0, none⟩ = some (.string mm.body) ∧ w'.cell? ⟨wr.heap.size, 1, none⟩ = some (.string mm.group) ∧ w'.cell? ⟨wr.heap.size, 3, none⟩ = some (.int .i64 (mm.count + 1)))
          (first | exact ⟨b0, b1, b3⟩ | exact ⟨r0, r1, r3⟩ | go_keep)
          (first
            | (go_at_call 198; refine Calls.mono (HRC.out _ (by first | exact HP7.out.belowW | exact (HP7.out.below (Below.refl _ _).drew).belowW)) ?_; rintro e w8 ⟨rfl, hB8⟩; have HP8 := Lib.hid (HP7.out.below (by first | exact hB8 | exact below_undrew hB8)); have r0 := blk_cell HP8.out.blk3 0; have r1 := blk_cell HP8.out.blk3 1; have r3 := blk_cell HP8.out.blk3 3; simp only [List.getElem?_toArray, List.getElem?_cons_zero, List.getElem?_cons_succ] at r0 r1 r3; have HPA := Lib.hid (HP8.out.alloc (.cells #[.int .i64 mm.id, .int .i64 (mm.count + 1), .string (receipt mm.id (mm.count + 1)), .string mm.body, .string mm.group] 45)); have HCA := Lib.hid (C_one_tk mm.tk HPA.out.blk0); obtain ⟨okr, hR1, hR2, hR3⟩ := HPA.out.swap.appended; have HR1 := Lib.hid hR1; have HR2 := Lib.hid hR2; have HR3 := Lib.hid hR3; clear hB8 hR1 hR2 hR3)
            | (refine Kd.R_append_rows_step KTk (w0 := (w8.alloc (.cells #[.int .i64 mm.id, .int .i64 (mm.count + 1), .string (receipt mm.id (mm.count + 1)), .string mm.body, .string mm.group] 45))) 0 (by rfl) (.tmp 72) (.tmp 85) 34 45 (.agg #[.int .i64 0, .int .i64 0, .string ⟨#[]⟩, .string ⟨#[]⟩, .string ⟨#[]⟩]) 64 rfl Tryz.underlying34 info_took rfl (by decide) (by omega) u9 (((qReady σ).take j).map Msg.tk) [mm.tk] (some ⟨w8.heap.size, 0, none⟩) 1 1 okr (fun _ => False) rfl rfl (by exact HR1.out) (by exact HCA.out) (fun _ _ h => h) (fun _ h => h.elim) (by exact HR2.out) (Below.refl _ _) (Nat.zero_le _) (by have := HTKL.out; omega) ?_; intro v9 w9 hR9 _ hg9 hat9; have HP9 := Lib.hid (HR3.out v9 w9 _ hR9 ⟨hg9.os, hg9.tape, hg9.output, hg9.size, hg9.block⟩).drop1; have r0 := blk_cell HP9.out.blk3 0; have r1 := blk_cell HP9.out.blk3 1; have r3 := blk_cell HP9.out.blk3 3; simp only [List.getElem?_toArray, List.getElem?_cons_zero, List.getElem?_cons_succ] at r0 r1 r3; clear hR9 hg9 hat9))
        go_wp2_with fail
        refine ⟨⟨j + 1, by simp, by omega, ?_⟩, ?_⟩
        · rw [HTK.out, List.map_append, ← HTK.out, HST.out]
          have hrn := HR.out.up HIJ.out HMJ.out (f := fun x => x.take (σ.now + vs)) rfl rfl
          exact (Hp.quShut' (σ := qUp σj mm.id (fun x => x.take (σ.now + vs))) HP9.out.up6.up2.up6.up4.up6 HIN.out hrn hT).swap.drop2.swap2
        · simp [intOf]
          omega
      · have hjk' : j = k := by omega
        subst hjk'
        have HTQ := Lib.hid (show (qReady σ).take j = qTook σ nn by
          unfold qTook
          have h1 := HK.out
          have h2 := HM.out
          rcases Nat.le_total nn m with h | h
          · rw [show j = nn by omega]
          · rw [List.take_of_length_le (by omega), List.take_of_length_le (by omega)])
        have hQ := HQ.out
        rw [HTQ.out] at hQ
        obtain ⟨A9, c9, rfl⟩ := Kd.R_slice hQ.head
        have HQ2 := Lib.hid hQ.drop1
        clear hQ
        go_wp2_with fail
        go_ret2
        exact ⟨A9, _, c9, List.length_map .., rfl, HQ2.out⟩
/-- A Receive: what it leaves, what is told. -/
theorem Hp.quRcv (h : Hp w0 w (AQu qb σ T :: Ps)) (hrec : RecOk w0 T) (n vis : Int) :
    Calls Tryz.prog 158 #[.pointer (some ⟨qb, 0, none⟩), .int .i64 n, .int .i64 vis] w fun e w' => ∃ A k c, k = (qRcv σ n vis).2.1.length ∧ e = .returned (.tuple #[.slice A k c, .int .i64 (qRcv σ n vis).2.2]) ∧ Hp w0 w' (ATk (.slice A k c) (qRcv σ n vis).2.1 :: AQu qb (qRcv σ n vis).1 (T + 1) :: Ps) := by
  cases hm : qMayRecv n vis with
  | false =>
    have e2 : qRcv σ n vis = (σ, ([], 1)) := by unfold qRcv; rw [if_neg (by rw [hm]; decide)]
    rw [e2]
    refine Calls.mono (h.rcvNot n vis hm) ?_
    rintro e w' ⟨rfl, rfl⟩
    exact ⟨none, 0, 0, rfl, rfl, (h.quMono (Nat.le_succ T)).fresh (Below.refl _ _) (Kd.R_nil _ _ _ _ _)⟩
  | true =>
    have hc := hm
    unfold qMayRecv at hc
    rw [decide_eq_true_iff] at hc
    obtain ⟨nn, rfl⟩ : ∃ nn : Nat, n = nn := ⟨n.toNat, by omega⟩
    have hr : 0 ≤ σ.a.vis ∧ σ.a.vis ≤ 1048576 := by
      obtain ⟨_, _, _, _, _, _, _, _, _, hi, _⟩ := h.quOpen'
      have := hi.right
      unfold qRight at this
      rw [decide_eq_true_iff] at this
      omega
    have e2 : qRcv σ nn vis = (qRecvs σ (qTook σ nn) (σ.now + (if vis = 0 then σ.a.vis else vis)), ((qTook σ nn).map Msg.tk, 0)) := by
      unfold qRcv
      rw [if_pos hm, qRecv_eq, Int.toNat_natCast]
    rw [e2]
    refine Calls.mono (h.rcvDo hrec nn vis _ ⟨by omega, by omega⟩ ⟨hc.2.2.1, hc.2.2.2⟩ rfl (by split <;> omega)) ?_
    rintro e w' ⟨A, k, c, hk, he, hP⟩
    exact ⟨A, k, c, by rw [hk, List.length_map], he, hP⟩
end
end Go.Proofs.YtipdleiginnjmaaGreatDoor
