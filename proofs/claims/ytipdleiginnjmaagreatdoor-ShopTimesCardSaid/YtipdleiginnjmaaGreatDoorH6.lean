/- Put together: A queue in memory: its block, and its parts. · queue: its block's cells; span, Right, Attr, Now, Leased, drop, Ids. · queue: Attr, Now, Leased, drop, Ids, Set, New. · queue: New, Set. · queue: Set. · queue: receipt, by. · queue: by, Ack, Purge. · queue: Ack, Purge, Extend. · queue: Extend. -/
import Derived.Test.YtipdleiginnjmaaGreatDoorH1
import Derived.Test.YtipdleiginnjmaaGreatDoorH5
import Derived.Test.YtipdleiginnjmaaGreatDoorH2
import Derived.Test.YtipdleiginnjmaaGreatDoorH3
import Derived.Test.YtipdleiginnjmaaGreatDoorH4
import Derived.Test.YtipdleiginnjmaaGreatDoorShelfSortPI
import Derived.Deep.DeepCutAuto
import Derived.Outline
import Derived.Shelf.SlSortCmp.QuietGrown
import Derived.Test.YtipdleiginnjmaaGreatDoorShelfItoaM
import Derived.Lib.ItoaLen
import Derived.StillTailTactics
set_option linter.unusedVariables false
set_option linter.unusedSimpArgs false
namespace Go.Proofs.YtipdleiginnjmaaGreatDoor
open Go.RowKit Go.Proofs.YtipdleiginnjmaaGreatDoorW.PrintWords

def encQ (b : Bod) : Value := .agg #[.string b.1, .string b.2.1, .int .i64 b.2.2.1, .int .i64 b.2.2.2.1, .int .i64 b.2.2.2.2]
theorem under_qu : Tryz.prog.underlying 107 = some (.map 3 161) := Tryz.underlying107
def AMp (mb : Nat) (ms : List (Int × Bod)) : Asn where
  pred w S := S mb ∧ MapAt KI encQ w mb ms
  mono h hm := ⟨hm mb h.1 h.2.lt, h.2⟩
  move h hm := ⟨h.1, h.2.move (hm mb h.1 h.2.lt)⟩
def QA.cells (a : QA) : List Value := [.int .i64 a.vis, .int .i64 a.ret, .int .i64 a.del, .int .i64 a.win, .int .i64 a.max, .string a.dead, .bool a.fifo]
/-- A queue's block. -/
def quCells (σ : Qs) (mb lb tb sb : Nat) : Array Value := (σ.a.cells ++ ([.int .i64 σ.now, .int .i64 σ.next, .map (some mb), .pointer (some ⟨lb, 0, none⟩), .pointer (some ⟨tb, 0, none⟩), .pointer (some ⟨sb, 0, none⟩)] : List Value)).toArray
structure QParts where
  mb : Nat
  lb : Nat
  tb : Nat
  sb : Nat
  T : Nat
  ms : List (Int × Bod)
  s : List En
  ti : List It
  r : List (Ent Int)
def QParts.row (σ : Qs) (qb : Nat) (p : QParts) : List Asn := [ABlk qb (.cells (quCells σ p.mb p.lb p.tb p.sb) 112 (0, 0)), AMp p.mb p.ms, ALn p.lb p.s p.T, ATm p.tb p.ti, ALdI p.sb 4096 p.r]
/-- A queue (its block qb) that is σ; T: how often something came. -/
def AQu (qb : Nat) (σ : Qs) (T : Nat) : Asn := AEx (fun p : QParts => AIf (QInv σ T ∧ QRel σ p.ms p.s p.ti p.r ∧ p.T ≤ T) (AStar (p.row σ qb)))
theorem Hp.quOpen {w0 w : World} {qb T : Nat} {σ : Qs} {Ps : List Asn} (h : Hp w0 w (AQu qb σ T :: Ps)) : ∃ p : QParts, QInv σ T ∧ QRel σ p.ms p.s p.ti p.r ∧ p.T ≤ T ∧ Hp w0 w (p.row σ qb ++ Ps) := by
  obtain ⟨p, h⟩ := h.unex
  obtain ⟨⟨h1, h2, h3⟩, h⟩ := h.unif
  exact ⟨p, h1, h2, h3, h.unstar⟩
theorem Hp.quShut {w0 w : World} {qb T : Nat} {σ : Qs} {Ps : List Asn} (p : QParts) (h1 : QInv σ T) (h2 : QRel σ p.ms p.s p.ti p.r) (h3 : p.T ≤ T) (h : Hp w0 w (p.row σ qb ++ Ps)) : Hp w0 w (AQu qb σ T :: Ps) :=
  Hp.ex p (Hp.if_ ⟨h1, h2, h3⟩ h.star)
end Go.Proofs.YtipdleiginnjmaaGreatDoor
namespace Go.Proofs.YtipdleiginnjmaaGreatDoor
open Go.RowKit Go.Maps Go.Proofs.YtipdleiginnjmaaGreatDoorW.PrintWords

/-- A queue's block, with its parts' blocks. -/
abbrev quObj (σ : Qs) (mb lb tb sb : Nat) : Obj := .cells (quCells σ mb lb tb sb) 112 (0, 0)
section
variable {w0 w : World} {qb T : Nat} {σ : Qs} {Ps : List Asn}
theorem Hp.up4 {P Q R S U : Asn} (h : Hp w0 w (P :: Q :: R :: S :: U :: Ps)) : Hp w0 w (U :: P :: Q :: R :: S :: Ps) := (h.perm ((((List.Perm.swap U S Ps).cons R).cons Q).cons P)).up3
theorem Hp.down3 {P Q R S : Asn} (h : Hp w0 w (P :: Q :: R :: S :: Ps)) : Hp w0 w (Q :: R :: S :: P :: Ps) := h.down2.perm (((List.Perm.swap S P Ps).cons R).cons Q)
theorem Hp.down4 {P Q R S U : Asn} (h : Hp w0 w (P :: Q :: R :: S :: U :: Ps)) : Hp w0 w (Q :: R :: S :: U :: P :: Ps) := h.down3.perm ((((List.Perm.swap U P Ps).cons S).cons R).cons Q)
theorem Hp.quOpen' (h : Hp w0 w (AQu qb σ T :: Ps)) : ∃ (mb lb tb sb T' : Nat) (ms : List (Int × Bod)) (s : List En) (ti : List It) (r : List (Ent Int)), QInv σ T ∧ QRel σ ms s ti r ∧ T' ≤ T ∧ Hp w0 w (ABlk qb (quObj σ mb lb tb sb) :: AMp mb ms :: ALn lb s T' :: ATm tb ti :: ALdI sb 4096 r :: Ps) := by
  obtain ⟨p, h1, h2, h3, h4⟩ := h.quOpen
  exact ⟨_, _, _, _, _, _, _, _, _, h1, h2, h3, h4⟩
theorem Hp.quShut' {mb lb tb sb T' : Nat} {ms : List (Int × Bod)} {s : List En} {ti : List It} {r : List (Ent Int)} (h : Hp w0 w (ABlk qb (quObj σ mb lb tb sb) :: AMp mb ms :: ALn lb s T' :: ATm tb ti :: ALdI sb 4096 r :: Ps)) (h1 : QInv σ T) (h2 : QRel σ ms s ti r) (h3 : T' ≤ T) : Hp w0 w (AQu qb σ T :: Ps) := Hp.quShut (p := ⟨mb, lb, tb, sb, T', ms, s, ti, r⟩) h1 h2 h3 h
theorem Hp.setBlk {g t : Nat} {cs : Array Value} (h : Hp w0 w (ABlk g (.cells cs t (0, 0)) :: Ps)) (i : Nat) (u : Value) : Hp w0 (w.setCell ⟨g, i, none⟩ u) (ABlk g (.cells (cs.setIfInBounds i u) t (0, 0)) :: Ps) := by
  obtain ⟨S1, h1, h2⟩ := h.use1
  exact h2 _ (ABlk g (.cells (cs.setIfInBounds i u) t (0, 0))) ((Keep.refl S1 w).setCell (p := ⟨g, i, none⟩) (.inl h1.1) u) ⟨.inl h1.1, blk_set h1.2 i u⟩
/-- The map of messages, used up by an operation and come back. -/
theorem Hp.mapUse {mb : Nat} {ms : List (Int × Bod)} (h : Hp w0 w (AMp mb ms :: Ps)) : MapAt KI encQ w mb ms ∧ ∀ (w' : World) (ms' : List (Int × Bod)), MapAt KI encQ w' mb ms' → ButB w w' mb → Hp w0 w' (AMp mb ms' :: Ps) := by
  obtain ⟨S1, h1, h2⟩ := h.use1
  exact ⟨h1.2, fun w' ms' hM hB => h2 w' (AMp mb ms') (hB.keep h1.1) ⟨.inl h1.1, hM⟩⟩
theorem wf_id {i : Int} (h : 0 ≤ i ∧ i ≤ 1099511627776) : (Lit.int .i64 i).wf = true := by
  have e1 : IntKind.i64.min = -9223372036854775808 := rfl
  have e2 : IntKind.i64.max = 9223372036854775807 := rfl
  simp [Lit.wf]
  omega
end
def spanB (n least : Int) : Bool := decide (least ≤ n ∧ n ≤ 1048576)
theorem span_any (n least : Int) (w : World) : Calls Tryz.prog 160 #[.int .i64 n, .int .i64 least] w fun e w' => e = .returned (.bool (spanB n least)) ∧ w = w' := by
  obtain ⟨b, hb⟩ : ∃ b, b = spanB n least := ⟨_, rfl⟩
  rw [← hb]
  have HB := Lib.hid hb
  clear hb
  by_cases h1 : least ≤ n
  · by_cases h2 : n ≤ 1048576
    · obtain rfl : b = true := by rw [HB.out]; unfold spanB; rw [decide_eq_true ⟨h1, h2⟩]
      go_enter Tryz.func160, Tryz.ntmps160
      go_wp2_with fail
      go_ret
      exact ⟨rfl, rfl⟩
    · obtain rfl : b = false := by rw [HB.out]; unfold spanB; rw [decide_eq_false (fun h => h2 h.2)]
      go_enter Tryz.func160, Tryz.ntmps160
      go_wp2_with fail
      go_ret
      exact ⟨rfl, rfl⟩
  · obtain rfl : b = false := by rw [HB.out]; unfold spanB; rw [decide_eq_false (fun h => h1 h.1)]
    go_enter Tryz.func160, Tryz.ntmps160
    go_wp2_with fail
    go_ret
    exact ⟨rfl, rfl⟩
def QA.val (a : QA) : Value := .agg a.cells.toArray
/-- The last part of Right: Max and Dead. -/
def deadB (a : QA) : Bool := decide (0 ≤ a.max) && (decide (a.max ≤ 100) && (decide (a.dead.size ≤ 64) && (decide (0 < a.max) == decide (0 < a.dead.size))))
theorem right_eq (a : QA) : qRight a = (spanB a.vis 1 && (spanB a.ret 1 && (spanB a.del 0 && (spanB a.win 0 && deadB a)))) := by
  unfold qRight spanB deadB
  rw [Bool.eq_iff_iff]
  simp only [Bool.and_eq_true, decide_eq_true_iff, beq_iff_eq, decide_eq_decide]
  omega
theorem empty_size {s : ByteArray} (h : s.size = 0) : s = ⟨#[]⟩ := by
  obtain ⟨d⟩ := s
  congr 1
  exact Array.size_eq_zero_iff.1 h
/-- Whether a string is "", as the walk asks. -/
theorem isEmpty_size (s : ByteArray) : s.toList.isEmpty = decide (s.size = 0) := by
  rw [Go.ByteArray.toList_eq]
  obtain ⟨⟨d⟩⟩ := s
  cases d <;> simp [ByteArray.size]
theorem nil_size {s : ByteArray} (h : s.size = 0) : s.toList = [] := by
  rw [← List.isEmpty_iff, isEmpty_size]
  simpa using h
set_option maxHeartbeats 1600000 in
set_option maxRecDepth 100000 in
theorem right_at (a : QA) (w : World) : Calls Tryz.prog 149 #[a.val] w fun e w' => e = .returned (.bool (qRight a)) ∧ w' = w.alloc (.cells #[.int .i64 a.vis, .int .i64 a.ret, .int .i64 a.del, .int .i64 a.win, .int .i64 a.max, .string a.dead, .bool a.fifo] 29) := by
  have HE := Lib.hid (right_eq a)
  obtain ⟨R, hR⟩ : ∃ R, R = qRight a := ⟨_, rfl⟩
  rw [← hR]
  have HR := Lib.hid (hR.trans HE.out)
  clear hR HE
  unfold QA.val QA.cells
  cases h1 : spanB a.vis 1
  case' false => obtain rfl : R = false := by rw [HR.out, h1]; rfl
  case' true =>
    cases h2 : spanB a.ret 1
    case' false => obtain rfl : R = false := by rw [HR.out, h2]; simp
    case' true =>
      cases h3 : spanB a.del 0
      case' false => obtain rfl : R = false := by rw [HR.out, h3]; simp
      case' true =>
        cases h4 : spanB a.win 0
        case' false => obtain rfl : R = false := by rw [HR.out, h4]; simp
        case' true =>
          have HR := Lib.hid (show R = deadB a by rw [HR.out, h1, h2, h3, h4]; rfl)
          by_cases m1 : 0 ≤ a.max
          case' neg => obtain rfl : R = false := by rw [HR.out]; unfold deadB; rw [decide_eq_false m1]; rfl
          case' pos =>
            by_cases m2 : a.max ≤ 100
            case' neg => obtain rfl : R = false := by rw [HR.out]; unfold deadB; rw [decide_eq_false m2]; simp
            case' pos =>
              by_cases m3 : (a.dead.size : Int) ≤ 64
              case' neg => obtain rfl : R = false := by rw [HR.out]; unfold deadB; rw [decide_eq_false (show ¬ a.dead.size ≤ 64 by omega)]; simp
              case' pos =>
                have hc : (a.dead.size = 0 ∧ 0 < a.max) ∨ ((a.dead.size = 0 ∧ ¬ 0 < a.max) ∨ ((a.dead.size ≠ 0 ∧ 0 < a.max) ∨ (a.dead.size ≠ 0 ∧ ¬ 0 < a.max))) := by omega
                rcases hc with ⟨m5, m4⟩ | (⟨m5, m4⟩ | (⟨m5, m4⟩ | ⟨m5, m4⟩))
                case' inl =>
                  obtain rfl : R = false := by rw [HR.out]; unfold deadB; rw [decide_eq_true m4, decide_eq_false (show ¬ 0 < a.dead.size by omega)]; simp
                  have hd1 := nil_size m5
                  have hd2 : (!a.dead.toList.isEmpty) = false := by rw [isEmpty_size, decide_eq_true m5]; rfl
                case' inr.inl =>
                  obtain rfl : R = true := by rw [HR.out]; unfold deadB; rw [decide_eq_true m1, decide_eq_true m2, decide_eq_true (show a.dead.size ≤ 64 by omega), decide_eq_false m4, decide_eq_false (show ¬ 0 < a.dead.size by omega)]; rfl
                  have hd1 := nil_size m5
                  have hd2 : (!a.dead.toList.isEmpty) = false := by rw [isEmpty_size, decide_eq_true m5]; rfl
                case' inr.inr.inl =>
                  obtain rfl : R = true := by rw [HR.out]; unfold deadB; rw [decide_eq_true m1, decide_eq_true m2, decide_eq_true (show a.dead.size ≤ 64 by omega), decide_eq_true m4, decide_eq_true (show 0 < a.dead.size by omega)]; rfl
                  have hd2 : (!a.dead.toList.isEmpty) = true := by rw [isEmpty_size, decide_eq_false m5]; rfl
                case' inr.inr.inr =>
                  obtain rfl : R = false := by rw [HR.out]; unfold deadB; rw [decide_eq_true (show 0 < a.dead.size by omega), decide_eq_false m4]; simp
                  have hd2 : (!a.dead.toList.isEmpty) = true := by rw [isEmpty_size, decide_eq_false m5]; rfl
  all_goals
    go_enter Tryz.func149, Tryz.ntmps149
    go_wp2_with (go_at_call 160; refine Calls.mono (span_any _ _ _) ?_; rintro e w' ⟨rfl, rfl⟩)
    go_ret
    refine ⟨?_, rfl⟩
    first | rfl | (simp; omega)
theorem right_any (a : QA) (w : World) : Calls Tryz.prog 149 #[a.val] w fun e w' => e = .returned (.bool (qRight a)) ∧ Below w.heap.size w w' :=
  Calls.mono (right_at a w) (fun _ _ ⟨h1, h2⟩ => ⟨h1, h2 ▸ below_alloc (Below.refl _ _) _⟩)
end Go.Proofs.YtipdleiginnjmaaGreatDoor
namespace Go.Proofs.YtipdleiginnjmaaGreatDoor
open Go.RowKit Go.Maps Go.Proofs.YtipdleiginnjmaaGreatDoorW.PrintWords
section
variable {w0 w : World} {qb T : Nat} {σ : Qs} {Ps : List Asn}
set_option maxHeartbeats 800000 in
set_option maxRecDepth 100000 in
theorem Hp.quNow (h : Hp w0 w (AQu qb σ T :: Ps)) : Calls Tryz.prog 26 #[.pointer (some ⟨qb, 0, none⟩)] w fun e w' => e = .returned (.int .i64 σ.now) ∧ w = w' := by
  obtain ⟨mb, lb, tb, sb, T', ms, s, ti, r, hi, hr, hT, hP⟩ := h.quOpen'
  have hb := hP.blk0
  have q7 : w.cell? ⟨qb, 7, none⟩ = some (.int .i64 σ.now) := blk_cell hb 7
  clear hb hP hT hr hi h
  go_enter Tryz.func26, Tryz.ntmps26
  go_wp2_with fail
  go_ret
  exact ⟨rfl, rfl⟩
set_option maxHeartbeats 800000 in
set_option maxRecDepth 100000 in
theorem Hp.quAttr (h : Hp w0 w (AQu qb σ T :: Ps)) : Calls Tryz.prog 48 #[.pointer (some ⟨qb, 0, none⟩)] w fun e w' => e = .returned σ.a.val ∧ Hp w0 w' (AQu qb σ T :: Ps) := by
  have H := Lib.hid h
  obtain ⟨mb, lb, tb, sb, T', ms, s, ti, r, hi, hr, hT, hP⟩ := h.quOpen'
  have hb := hP.blk0
  have hlt := blk_lt hb
  have q0 : w.cell? ⟨qb, 0, none⟩ = some (.int .i64 σ.a.vis) := blk_cell hb 0
  have q1 : w.cell? ⟨qb, 1, none⟩ = some (.int .i64 σ.a.ret) := blk_cell hb 1
  have q2 : w.cell? ⟨qb, 2, none⟩ = some (.int .i64 σ.a.del) := blk_cell hb 2
  have q3 : w.cell? ⟨qb, 3, none⟩ = some (.int .i64 σ.a.win) := blk_cell hb 3
  have q4 : w.cell? ⟨qb, 4, none⟩ = some (.int .i64 σ.a.max) := blk_cell hb 4
  have q5 : w.cell? ⟨qb, 5, none⟩ = some (.string σ.a.dead) := blk_cell hb 5
  have q6 : w.cell? ⟨qb, 6, none⟩ = some (.bool σ.a.fifo) := blk_cell hb 6
  clear hb hP hT hr hi h
  go_enter Tryz.func48, Tryz.ntmps48
  go_wp2_with fail
  exact bodyPost_ret (v := .agg #[.int .i64 σ.a.vis, .int .i64 σ.a.ret, .int .i64 σ.a.del, .int .i64 σ.a.win, .int .i64 σ.a.max, .string σ.a.dead, .bool σ.a.fifo]) (by simp [results, Tryz.results48, go_sem]) rfl ⟨rfl, H.out.below (below_alloc (Below.refl _ _) _)⟩
theorem Hp.rot5 {A B C D E R : Asn} (h : Hp w0 w (R :: A :: B :: C :: D :: E :: Ps)) : Hp w0 w (A :: B :: C :: D :: E :: R :: Ps) := h.perm (List.perm_middle (l₁ := [A, B, C, D, E])).symm
/-- Until when a message is leased, if it is. -/
def qLs (σ : Qs) (id : Int) : Int × Bool := match σ.l.find? (fun m => m.leased && decide (m.id = id)) with
  | some m => (m.till, true)
  | none => (0, false)
theorem QRel.ls {ms : List (Int × Bod)} {s : List En} {ti : List It} {r : List (Ent Int)} (h : QRel σ ms s ti r) (hi : QInv σ T) (id : Int) : itAt ti id = qLs σ id := by
  have hnd : (ti.map (·.1)).Nodup := by
    refine (h.ti.map _).nodup_iff.2 ?_
    rw [List.map_map]
    exact rise_nodup (hi.rise.filter _)
  unfold qLs
  cases hf : σ.l.find? (fun m => m.leased && decide (m.id = id)) with
  | some m =>
    have h1 := List.mem_of_find?_eq_some hf
    have h2 := List.find?_some hf
    rw [Bool.and_eq_true, decide_eq_true_iff] at h2
    have := ((h.lease hi h1).1).1 h2.1
    rw [← h2.2]
    exact itAt_some hnd this
  | none =>
    refine itAt_none (fun p hp e => ?_)
    obtain ⟨m, hm, rfl⟩ := List.mem_map.1 (h.ti.mem_iff.1 hp)
    obtain ⟨h1, h2⟩ := List.mem_filter.1 hm
    have := List.find?_eq_none.1 hf m h1
    rw [Bool.and_eq_true, decide_eq_true_iff] at this
    exact this ⟨h2, e⟩
theorem qLs_of (hi : QInv σ T) {m : Msg} (hm : m ∈ σ.l) : qLs σ m.id = if m.leased then (m.till, true) else (0, false) := by
  unfold qLs
  cases hf : σ.l.find? (fun x => x.leased && decide (x.id = m.id)) with
  | some x =>
    have h1 := List.mem_of_find?_eq_some hf
    have h2 := List.find?_some hf
    rw [Bool.and_eq_true, decide_eq_true_iff] at h2
    obtain rfl := uniq_at hi hm x h1 h2.2
    rw [if_pos h2.1]
  | none =>
    have := List.find?_eq_none.1 hf m hm
    cases hl : m.leased
    · rfl
    · rw [hl] at this; simp at this
set_option maxHeartbeats 800000 in
set_option maxRecDepth 100000 in
theorem Hp.quLeased (h : Hp w0 w (AQu qb σ T :: Ps)) (id : Int) (hw : (Lit.int .i64 id).wf = true) : Calls Tryz.prog 49 #[.pointer (some ⟨qb, 0, none⟩), .int .i64 id] w fun e w' => e = .returned (.tuple #[.int .i64 (qLs σ id).1, .bool (qLs σ id).2]) ∧ w = w' := by
  obtain ⟨mb, lb, tb, sb, T', ms, s, ti, r, hi, hr, hT, hP⟩ := h.quOpen'
  have hb := hP.blk0
  have q11 : w.cell? ⟨qb, 11, none⟩ = some (.pointer (some ⟨tb, 0, none⟩)) := blk_cell hb 11
  have HP := Lib.hid hP.up3
  obtain ⟨⟨t1, t2⟩, ht⟩ : ∃ t, t = qLs σ id := ⟨_, rfl⟩
  rw [← ht]
  have HT := Lib.hid ((hr.ls hi id).trans ht.symm)
  clear hb hP hT hr hi h ht
  go_enter Tryz.func49, Tryz.ntmps49
  go_wp2_with fail
  refine Calls.mono (HP.out.tmAt id hw) ?_
  rintro e w' ⟨rfl, rfl⟩
  rw [HT.out]
  go_wp2_with fail
  go_ret2
  exact ⟨rfl, rfl⟩
theorem under_qu2 : Tryz.prog.underlying 107 = some (.map 3 161) := under_qu
set_option maxHeartbeats 800000 in
set_option maxRecDepth 100000 in
theorem Hp.quDrop (h : Hp w0 w (AQu qb σ T :: Ps)) (id : Int) (hw : (Lit.int .i64 id).wf = true) (hT6 : T ≤ 1000000) : Calls Tryz.prog 147 #[.pointer (some ⟨qb, 0, none⟩), .int .i64 id] w fun e w' => e = .returned (.tuple #[]) ∧ Hp w0 w' (AQu qb (qDrop σ id) T :: Ps) := by
  obtain ⟨mb, lb, tb, sb, T', ms, s, ti, r, hi, hr, hT, hP⟩ := h.quOpen'
  have hb := hP.blk0
  have q9 : w.cell? ⟨qb, 9, none⟩ = some (.map (some mb)) := blk_cell hb 9
  have HP := Lib.hid hP
  have HI := Lib.hid hi
  have HR := Lib.hid hr
  have HL := Lib.hid (show ti.length ≤ 1000000 by have := hr.tLen; have := hi.len; omega)
  clear hb hP hr hi h
  go_enter Tryz.func147, Tryz.ntmps147
  go_wp2_with (refine wpList_del_at (K := KI) (enc := encQ) HP.out.swap.mapUse.1 (by rfl) (.tmp 7) (.tmp 8) 107 161 rfl under_qu rfl id rfl hw ?_; intro w2 hM2 hB2; have hP2 := (HP.out.swap.mapUse.2 w2 _ hM2 hB2).swap; have hb := hP2.blk0; have q10 : w2.cell? ⟨qb, 10, none⟩ = some (.pointer (some ⟨lb, 0, none⟩)) := blk_cell hb 10; have HP2 := Lib.hid hP2.up2; clear hP2 hM2 hB2 hb q9)
  refine Calls.mono (HP2.out.lnDrop id hw (by omega)) ?_
  rintro e w3 ⟨rfl, hP3⟩
  have hP3 := hP3.down2
  have hb := hP3.blk0
  have q11 : w3.cell? ⟨qb, 11, none⟩ = some (.pointer (some ⟨tb, 0, none⟩)) := blk_cell hb 11
  have HP3 := Lib.hid hP3.up3
  clear hP3 hb q10
  go_wp2_with fail
  refine Calls.mono (HP3.out.tmDrop id hw HL.out) ?_
  rintro e w4 ⟨rfl, hP4⟩
  have HP4 := Lib.hid hP4.down3
  clear hP4 q11
  go_wp2_with fail
  go_end0
  exact ⟨rfl, Hp.quShut' (σ := qDrop σ id) HP4.out (HI.out.drop id) (HR.out.drop id) hT⟩
theorem sortI_any (w : World) (b : Nat) (ok : Nat → Prop) (A : Option Addr) (n cap : Nat) (l : List Int) (hR : (Kd.int .i64).R 3 w b ok (.slice A n cap) l) (hn : n ≤ 1000000) :
    Calls Tryz.prog 82 #[.slice A n cap] w fun e w' => e = .returned (.tuple #[]) ∧ (Kd.int .i64).R 3 w' b ok (.slice A n cap) (l.mergeSort fun x y => decide (x ≤ y)) ∧ Keep ok w w' := by
  obtain ⟨hnl, _, _⟩ := Kd.R_reads' hR
  rcases Nat.eq_zero_or_pos n with h0 | h0
  · subst h0
    have hl0 : l = [] := List.eq_nil_of_length_eq_zero hnl.symm
    subst hl0
    refine Calls.mono (AnyG.slices_Sort_int_none Tryz.sortPI A cap w) ?_
    rintro e w' ⟨rfl, rfl⟩
    rw [List.mergeSort_nil]
    exact ⟨rfl, hR, Keep.refl _ _⟩
  · obtain ⟨g, cap', hv, hbg, hgl, cells, hg⟩ := Kd.R_form hR (by omega)
    injection hv with hA hx hc
    subst hA hc
    have hokg := hR.1 g rfl
    have ho := Kd.own_of_R hR
    rcases ho.2 with ⟨hv, _⟩ | ⟨g', cap', cur, hv, hb, hh, h1, h2, h3, h4⟩
    · cases hv
    injection hv with ha _ hc'
    injection ha with ha
    injection ha with ha
    subst ha hc'
    rw [Nat.mul_one] at h3 h4
    have hH := Go.holds_of_blockI (ss := l) hh h4
    subst hnl
    refine Calls.mono (AnyG.slices_Sort_int Tryz.sortPI g 0 cap l w hH hgl (by omega)) ?_
    rintro e w' ⟨rfl, m, os, rfl⟩
    obtain ⟨r1, r2⟩ := R_sortedI (m := m) (os := os) hR (ys := l.mergeSort fun x y => decide (x ≤ y)) (List.length_mergeSort l)
    exact ⟨rfl, r1, ⟨r2.os, r2.tape, r2.output, r2.size, fun k hk hn => r2.block k hk (fun e => hn ((Option.some.inj e) ▸ hokg))⟩⟩
/-- A row of numbers of the call's own, put in order. -/
theorem Hp.sortI {A : Option Addr} {n cap : Nat} {l : List Int} (h : Hp w0 w (ARow (Kd.int .i64) 3 (.slice A n cap) l :: Ps)) (hn : n ≤ 1000000) :
    Calls Tryz.prog 82 #[.slice A n cap] w fun e w' => e = .returned (.tuple #[]) ∧ Hp w0 w' (ARow (Kd.int .i64) 3 (.slice A n cap) (l.mergeSort fun x y => decide (x ≤ y)) :: Ps) := by
  obtain ⟨S1, h1, h2⟩ := h.use1
  refine Calls.mono (sortI_any w 0 S1 A n cap l h1 hn) ?_
  rintro e w' ⟨rfl, hR, hK⟩
  exact ⟨rfl, h2 w' (ARow (Kd.int .i64) 3 (.slice A n cap) _) hK (Kd.R_mono hR (fun _ hk => .inl hk))⟩
theorem sort_rise {l : List Int} (h : l.Pairwise (· ≤ ·)) : (l.mergeSort fun x y => decide (x ≤ y)) = l := by
  refine List.mergeSort_of_pairwise (h.imp (fun {a b} hab => ?_))
  simpa using hab
abbrev AInt (v : Value) (l : List Int) : Asn := ARow (Kd.int .i64) 3 v l
set_option maxHeartbeats 800000 in
set_option maxRecDepth 100000 in
theorem Hp.quIds (h : Hp w0 w (AQu qb σ T :: Ps)) (hT6 : T ≤ 1000000) : Calls Tryz.prog 47 #[.pointer (some ⟨qb, 0, none⟩)] w fun e w' => ∃ A c, e = .returned (.slice A σ.l.length c) ∧ Hp w0 w' (AInt (.slice A σ.l.length c) (σ.l.map (·.id)) :: AQu qb σ T :: Ps) := by
  obtain ⟨mb, lb, tb, sb, T', ms, s, ti, r, hi, hr, hT, hP⟩ := h.quOpen'
  have hb := hP.blk0
  have q10 : w.cell? ⟨qb, 10, none⟩ = some (.pointer (some ⟨lb, 0, none⟩)) := blk_cell hb 10
  have HP := Lib.hid hP.up2
  have HI := Lib.hid hi
  have HR := Lib.hid hr
  clear hb hP hr hi h
  go_enter Tryz.func47, Tryz.ntmps47
  go_wp2_with fail
  refine Calls.mono (HP.out.lnAll (by omega)) ?_
  rintro e w2 ⟨A, c, rfl, hP2⟩
  have HS := Lib.hid HR.out.sIds
  rw [HR.out.sLen, HS.out] at hP2
  rw [HR.out.sLen]
  have hlen := HI.out.len
  obtain ⟨n, hn⟩ : ∃ n, n = σ.l.length := ⟨_, rfl⟩
  rw [← hn] at hP2 hlen ⊢
  have HN := Lib.hid hn
  have HP2 := Lib.hid hP2
  clear hP2 hn q10
  go_wp2_with fail
  refine Calls.mono (HP2.out.sortI (by omega)) ?_
  rintro e w3 ⟨rfl, hP3⟩
  rw [sort_rise (by rw [List.pairwise_map]; exact HI.out.rise.imp (fun {a b} hab => by omega))] at hP3
  have HP3 := Lib.hid hP3
  clear hP3
  go_wp2_with fail
  go_ret
  rw [← HN.out]
  exact ⟨A, c, rfl, (HP3.out.rot5.down2.quShut' HI.out HR.out hT).swap⟩
end
end Go.Proofs.YtipdleiginnjmaaGreatDoor
namespace Go.Proofs.YtipdleiginnjmaaGreatDoor
open Go.RowKit Go.Maps Go.Proofs.YtipdleiginnjmaaGreatDoorW.PrintWords
section
variable {w0 w : World} {qb T : Nat} {σ : Qs} {Ps : List Asn}
theorem Hp.asMap {g : Nat} (h : Hp w0 w (ABlk g (.map #[] 0) :: Ps)) : Hp w0 w (AMp g [] :: Ps) := by
  obtain ⟨S1, h1, h2⟩ := h.use1
  refine h2 w (AMp g []) (Keep.refl _ _) ⟨.inl h1.1, ?_⟩
  obtain ⟨es, clock, e1, e2⟩ := (MapAt.made KI encQ w).clone
  rw [heap_alloc_new] at e1
  injection e1 with e1
  injection e1 with e1 e3
  subst e1 e3
  exact e2 w g h1.2
theorem Hp.lnNew' (h : Hp w0 w Ps) : Calls Tryz.prog 150 #[] w fun e w' => ∃ lb, e = .returned (.pointer (some ⟨lb, 0, none⟩)) ∧ Hp w0 w' (ALn lb [] 0 :: Ps) := Calls.mono h.lnNew (fun _ _ ⟨h1, h2⟩ => ⟨_, h1, h2⟩)
theorem Hp.tmNew' (h : Hp w0 w Ps) : Calls Tryz.prog 151 #[] w fun e w' => ∃ tb, e = .returned (.pointer (some ⟨tb, 0, none⟩)) ∧ Hp w0 w' (ATm tb [] :: Ps) := Calls.mono h.tmNew (fun _ _ ⟨h1, h2⟩ => ⟨_, h1, h2⟩)
theorem Hp.quMade {cs : Array Value} {mb lb tb sb : Nat} {a : QA} (h : Hp w0 w (ABlk qb (.cells cs 112 (0, 0)) :: ABlk mb (.map #[] 0) :: ALn lb [] 0 :: ATm tb [] :: ALdI sb 4096 [] :: Ps)) (hr : qRight a = true) (hc : cs = quCells (qNew a) mb lb tb sb) : Hp w0 w (AQu qb (qNew a) 0 :: Ps) := by
  subst hc
  exact Hp.quShut' (σ := qNew a) h.swap.asMap.swap (QInv.new hr) (QRel.new a) (Nat.le_refl _)
theorem cells7 {w : World} {g t : Nat} {a : QA} {l : List Value} (h : w.heap[g]? = some (.cells (a.cells ++ l).toArray t (0, 0))) :
    w.cell? ⟨g, 0, none⟩ = some (.int .i64 a.vis) ∧ w.cell? ⟨g, 1, none⟩ = some (.int .i64 a.ret) ∧ w.cell? ⟨g, 2, none⟩ = some (.int .i64 a.del) ∧ w.cell? ⟨g, 3, none⟩ = some (.int .i64 a.win) ∧ w.cell? ⟨g, 4, none⟩ = some (.int .i64 a.max) ∧ w.cell? ⟨g, 5, none⟩ = some (.string a.dead) ∧ w.cell? ⟨g, 6, none⟩ = some (.bool a.fifo) :=
  ⟨blk_cell h 0, blk_cell h 1, blk_cell h 2, blk_cell h 3, blk_cell h 4, blk_cell h 5, blk_cell h 6⟩
set_option maxHeartbeats 1600000 in
set_option maxRecDepth 100000 in
theorem Hp.quNew (h : Hp w0 w Ps) (a : QA) :
    Calls Tryz.prog 110 #[a.val] w fun e w' => (qRight a = false → e = .returned (.pointer none) ∧ Hp w0 w' Ps) ∧ (qRight a = true → ∃ qb, e = .returned (.pointer (some ⟨qb, 0, none⟩)) ∧ Hp w0 w' (AQu qb (qNew a) 0 :: Ps)) := by
  have hmm := @run_makeMap Tryz.prog
  have HP := Lib.hid (h.alloc (.cells (a.cells ++ []).toArray 29))
  obtain ⟨c0, c1, c2, c3, c4, c5, c6⟩ := cells7 HP.out.blk0
  have hbl : w.heap.size < (w.alloc (.cells (a.cells ++ []).toArray 29)).heap.size := by simp
  unfold QA.cells at c0 c1 c2 c3 c4 c5 c6 hbl
  simp only [List.cons_append, List.nil_append] at c0 c1 c2 c3 c4 c5 c6 hbl
  unfold QA.val QA.cells
  clear h
  go_enter Tryz.func110, Tryz.ntmps110
  go_wp2_with fail
  refine Calls.mono (right_any a _) ?_
  rintro e w1 ⟨rfl, hB1⟩
  have hP1 := HP.out.below hB1
  obtain ⟨c0, c1, c2, c3, c4, c5, c6⟩ := cells7 hP1.blk0
  have HP1 := Lib.hid hP1
  clear hP1 hB1
  cases hR : qRight a
  case false =>
    go_wp2_with fail
    go_ret
    exact ⟨fun _ => ⟨rfl, HP1.out.tail⟩, fun h => absurd (hR.symm.trans h) (by decide)⟩
  case true =>
    have HRR := Lib.hid hR
    clear hR
    go_wp2_with fail
    go_region_held3 (fun w' => w'.cell? ⟨w.heap.size, 0, none⟩ = some (.int .i64 a.vis) ∧ w'.cell? ⟨w.heap.size, 1, none⟩ = some (.int .i64 a.ret) ∧ w'.cell? ⟨w.heap.size, 2, none⟩ = some (.int .i64 a.del) ∧ w'.cell? ⟨w.heap.size, 3, none⟩ = some (.int .i64 a.win) ∧ w'.cell? ⟨w.heap.size, 4, none⟩ = some (.int .i64 a.max) ∧ w'.cell? ⟨w.heap.size, 5, none⟩ = some (.string a.dead) ∧ w'.cell? ⟨w.heap.size, 6, none⟩ = some (.bool a.fifo))
      (first | go_keep | exact cells7 HP4.out.blk3 | exact cells7 HP4.out.tail.blk3 | exact cells7 HP3.out.blk2 | exact cells7 HP3.out.blk3 | exact cells7 HP2.out.blk1 | exact cells7 HP2.out.blk2)
      (first
        | (go_at_call 150; refine Calls.mono (Hp.lnNew' (by first | exact HP1.out | exact HP1.out.below (Below.refl _ _).drew | exact (HP1.out.alloc _) | exact (HP1.out.below (Below.refl _ _).drew).alloc _ | exact (HP1.out.alloc _).below (Below.refl _ _).drew)) ?_; rintro e w2 ⟨lb, rfl, hP2⟩; have HP2 := Lib.hid hP2; clear hP2)
        | (go_at_call 151; refine Calls.mono (Hp.tmNew' (by first | exact HP2.out | exact HP2.out.alloc _)) ?_; rintro e w3 ⟨tb, rfl, hP3⟩; have HP3 := Lib.hid hP3; clear hP3)
        | (go_at_call 152; refine Calls.mono (Hp.ldINew (by first | exact HP3.out | exact HP3.out.alloc _) 4096) ?_; rintro e w4 ⟨sb, rfl, hP4⟩; rw [show max (4096 : Int) 0 = 4096 from rfl] at hP4; have HP4 := Lib.hid hP4; clear hP4))
    all_goals
      go_wp2_with fail
      go_ret
      refine ⟨fun h => absurd (HRR.out.symm.trans h) (by decide), fun _ => ⟨_, rfl, ?_⟩⟩
      first
        | exact ((HP4.out.alloc _).swap.up2.up3.up4.up4).quMade HRR.out rfl |>.drop1
        | exact ((HP4.out.alloc _).swap.up2.up4.up4.up4).quMade HRR.out rfl |>.drop1
        | exact ((HP4.out.alloc _).swap.up3.up4.up4.up4).quMade HRR.out rfl |>.drop1
        | (have h4 := (((HP4.out.alloc (.map #[] 0)).alloc (.cells (quCells (qNew a) w4.heap.size lb tb sb) 112)).up2.up3.up4.up4.up4).quMade HRR.out rfl; rw [show (w4.alloc (.map #[] 0)).heap.size = w4.heap.size + 1 from by simp] at h4; exact h4.drop1)
end
end Go.Proofs.YtipdleiginnjmaaGreatDoor
namespace Go.Proofs.YtipdleiginnjmaaGreatDoor
open Go.RowKit Go.Maps Go.Proofs.YtipdleiginnjmaaGreatDoorW.PrintWords
open Go.Sort Go.BigFrame
theorem gr_below (w : World) (n : Nat) (os : Array Obj) : Below w.heap.size w (grow (w.drewN n) os) :=
  ⟨rfl, rfl, rfl, by simp [grow], fun k hk => heap_grow_old (w.drewN n) os hk⟩
section
variable {w0 w : World} {qb T : Nat} {σ : Qs} {Ps : List Asn}
theorem Hp.setA (h : Hp w0 w (AQu qb σ T :: Ps)) {a : QA} (hr : qRight a = true) (hf : a.fifo = σ.a.fifo) :
    Hp w0 (((((((w.setCell ⟨qb, 0, none⟩ (.int .i64 a.vis)).setCell ⟨qb, 1, none⟩ (.int .i64 a.ret)).setCell ⟨qb, 2, none⟩ (.int .i64 a.del)).setCell ⟨qb, 3, none⟩ (.int .i64 a.win)).setCell ⟨qb, 4, none⟩ (.int .i64 a.max)).setCell ⟨qb, 5, none⟩ (.string a.dead)).setCell ⟨qb, 6, none⟩ (.bool a.fifo)) (AQu qb (qSet σ a) T :: Ps) := by
  obtain ⟨mb, lb, tb, sb, T', ms, s, ti, r, hi, hrel, hT, hP⟩ := h.quOpen'
  have hi2 := hi.set a
  have e : qSet σ a = { σ with a := a } := by unfold qSet; rw [hr, hf]; simp
  rw [e] at hi2 ⊢
  have hc : ((((((((quCells σ mb lb tb sb).setIfInBounds 0 (.int .i64 a.vis)).setIfInBounds 1 (.int .i64 a.ret)).setIfInBounds 2 (.int .i64 a.del)).setIfInBounds 3 (.int .i64 a.win)).setIfInBounds 4 (.int .i64 a.max)).setIfInBounds 5 (.string a.dead)).setIfInBounds 6 (.bool a.fifo)) = quCells { σ with a := a } mb lb tb sb := by
    unfold quCells QA.cells
    simp
  have h2 := ((((((hP.setBlk 0 (.int .i64 a.vis)).setBlk 1 (.int .i64 a.ret)).setBlk 2 (.int .i64 a.del)).setBlk 3 (.int .i64 a.win)).setBlk 4 (.int .i64 a.max)).setBlk 5 (.string a.dead)).setBlk 6 (.bool a.fifo)
  rw [hc] at h2
  exact Hp.quShut' (σ := { σ with a := a }) h2 hi2 ⟨hrel.ms, hrel.s, hrel.ti, hrel.r⟩ hT
theorem cells8 {g t : Nat} {a : QA} {l : List Value} (h : Hp w0 w (ABlk g (.cells (a.cells ++ l).toArray t (0, 0)) :: AQu qb σ T :: Ps)) :
    w.cell? ⟨g, 0, none⟩ = some (.int .i64 a.vis) ∧ w.cell? ⟨g, 1, none⟩ = some (.int .i64 a.ret) ∧ w.cell? ⟨g, 2, none⟩ = some (.int .i64 a.del) ∧ w.cell? ⟨g, 3, none⟩ = some (.int .i64 a.win) ∧ w.cell? ⟨g, 4, none⟩ = some (.int .i64 a.max) ∧ w.cell? ⟨g, 5, none⟩ = some (.string a.dead) ∧ w.cell? ⟨g, 6, none⟩ = some (.bool a.fifo) ∧ w.cell? ⟨qb, 6, none⟩ = some (.bool σ.a.fifo) := by
  obtain ⟨c0, c1, c2, c3, c4, c5, c6⟩ := cells7 h.blk0
  obtain ⟨mb, lb, tb, sb, T', ms, s, ti, r, hi, hrel, hT, hP⟩ := h.tail.quOpen'
  exact ⟨c0, c1, c2, c3, c4, c5, c6, blk_cell hP.blk0 6⟩
set_option maxHeartbeats 1600000 in
set_option maxRecDepth 100000 in
theorem Hp.quSet (h : Hp w0 w (AQu qb σ T :: Ps)) (a : QA) : Calls Tryz.prog 113 #[.pointer (some ⟨qb, 0, none⟩), a.val] w fun e w' => e = .returned (.int .i64 (qSetE σ a)) ∧ Hp w0 w' (AQu qb (qSet σ a) T :: Ps) := by
  have HP := Lib.hid (h.alloc (.cells (a.cells ++ []).toArray 29))
  obtain ⟨c0, c1, c2, c3, c4, c5, c6, c7⟩ := cells8 HP.out
  have hl0 : w.heap.size < (w.alloc (.cells (a.cells ++ []).toArray 29)).heap.size := by simp
  have hl1 : qb < (w.alloc (.cells (a.cells ++ []).toArray 29)).heap.size := by
    obtain ⟨mb, lb, tb, sb, T', ms, s, ti, r, hi, hrel, hT, hP⟩ := HP.out.tail.quOpen'
    exact blk_lt hP.blk0
  have k0 := fun n os => cell_grown (a := ⟨w.heap.size, 0, none⟩) hl0 c0 n os
  have k1 := fun n os => cell_grown (a := ⟨w.heap.size, 1, none⟩) hl0 c1 n os
  have k2 := fun n os => cell_grown (a := ⟨w.heap.size, 2, none⟩) hl0 c2 n os
  have k3 := fun n os => cell_grown (a := ⟨w.heap.size, 3, none⟩) hl0 c3 n os
  have k4 := fun n os => cell_grown (a := ⟨w.heap.size, 4, none⟩) hl0 c4 n os
  have k5 := fun n os => cell_grown (a := ⟨w.heap.size, 5, none⟩) hl0 c5 n os
  have k6 := fun n os => cell_grown (a := ⟨w.heap.size, 6, none⟩) hl0 c6 n os
  have k7 := fun n os => cell_grown (a := ⟨qb, 6, none⟩) hl1 c7 n os
  have HP' := Lib.hid (fun n os => HP.out.below (gr_below _ n os))
  unfold QA.cells at k0 k1 k2 k3 k4 k5 k6 k7 HP'
  simp only [List.cons_append, List.nil_append] at k0 k1 k2 k3 k4 k5 k6 k7 HP'
  have mixed : Tryz.prog.follows .mixedOrders = true := by kernel_rfl
  obtain ⟨E, hE⟩ : ∃ E, E = qSetE σ a := ⟨_, rfl⟩
  rw [← hE]
  have HE := Lib.hid hE
  have hRA := fun w1 : World => Calls.mono (right_at a w1) (fun e w' (h : _ ∧ _) => (show e = _ ∧ ∃ q os', w' = grow (w1.drewN q) os' from ⟨h.1, 0, #[_], h.2⟩))
  unfold QA.val QA.cells at hRA
  unfold QA.val QA.cells
  clear h hE c0 c1 c2 c3 c4 c5 c6 c7 hl0 hl1
  cases hR : qRight a
  case' false =>
    have HS := Lib.hid (show qSet σ a = σ by unfold qSet; rw [hR]; rfl)
    obtain rfl : E = 1 := by rw [HE.out]; unfold qSetE; rw [hR]; rfl
    rw [hR] at hRA
    have HRA := Lib.hid hRA
    clear hR hRA
  case' true =>
    rw [hR] at hRA
    have HRR := Lib.hid hR
    have HRA := Lib.hid hRA
    clear hR hRA
    by_cases hfe : a.fifo = σ.a.fifo
    case' neg =>
      have HS := Lib.hid (show qSet σ a = σ by unfold qSet; rw [HRR.out]; simp [hfe])
      obtain rfl : E = 1 := by rw [HE.out]; unfold qSetE; rw [HRR.out]; simp [hfe]
      have hff : (a.fifo == σ.a.fifo) = false := by simpa using hfe
    case' pos =>
      have HFE := Lib.hid hfe
      obtain rfl : E = 0 := by rw [HE.out]; unfold qSetE; rw [HRR.out]; simp [hfe]
      have hff : (a.fifo == σ.a.fifo) = true := by simpa using hfe
      clear hfe
  all_goals
    go_enter Tryz.func113, Tryz.ntmps113
    go_wp2_with fail
    refine wp_region_quiet_grown mixed (by kernel_rfl) ?_
    repeat (go_big_quiet_step ((go_at_call 149; refine Calls.grown_of (HRA.out _))))
    refine wpQuiet_nil ?_
    intro _ hw'
    obtain ⟨⟨nq, osq⟩, hw''⟩ := hw'
    subst hw''
    have HP2 := Lib.hid (HP'.out nq osq)
    generalize grow ((w.alloc (.cells #[.int .i64 a.vis, .int .i64 a.ret, .int .i64 a.del, .int .i64 a.win, .int .i64 a.max, .string a.dead, .bool a.fifo] 29)).drewN nq) osq = wg at *
    clear k0 k1 k2 k3 k4 k5 k6 k7
    obtain ⟨c0, c1, c2, c3, c4, c5, c6⟩ := cells7 (a := a) (l := []) HP2.out.blk0
    obtain ⟨⟨q0, q1, q2, q3, q4, q5, q6⟩, hfz⟩ : (wg.cell? ⟨qb, 0, none⟩ = some (.int .i64 σ.a.vis) ∧ wg.cell? ⟨qb, 1, none⟩ = some (.int .i64 σ.a.ret) ∧ wg.cell? ⟨qb, 2, none⟩ = some (.int .i64 σ.a.del) ∧ wg.cell? ⟨qb, 3, none⟩ = some (.int .i64 σ.a.win) ∧ wg.cell? ⟨qb, 4, none⟩ = some (.int .i64 σ.a.max) ∧ wg.cell? ⟨qb, 5, none⟩ = some (.string σ.a.dead) ∧ wg.cell? ⟨qb, 6, none⟩ = some (.bool σ.a.fifo)) ∧ (∀ i, wg.frozen? ⟨qb, i, none⟩ = false) := by
      obtain ⟨mb, lb, tb, sb, T', ms, s, ti, r, hi, hrel, hT, hP⟩ := HP2.out.tail.quOpen'
      exact ⟨cells7 hP.blk0, fun i => blk_frozen hP.blk0 i⟩
    have z0 := hfz 0
    have z1 := hfz 1
    have z2 := hfz 2
    have z3 := hfz 3
    have z4 := hfz 4
    have z5 := hfz 5
    have z6 := hfz 6
    clear hfz
    go_wp2_with fail
    go_ret
    first
      | exact ⟨rfl, by rw [HS.out]; exact HP2.out.tail⟩
      | exact ⟨rfl, HP2.out.tail.setA HRR.out HFE.out⟩
end
end Go.Proofs.YtipdleiginnjmaaGreatDoor
namespace Go.Proofs.YtipdleiginnjmaaGreatDoor
open Go.RowKit Go.Maps Go.Proofs.YtipdleiginnjmaaGreatDoorW.PrintWords
open Go.Sort Go.BigFrame

theorem C_nth_it {w : World} {A : Option Addr} {n : Nat} {xs : List It} (h : KIt.C w A n xs) (k : Nat) (hk : k < n) :
    ∃ ad id t, A = some ad ∧ xs[k]? = some (id, t) ∧ w.cell? (ad.add (k * 2)) = some (.int .i64 id) ∧ w.cell? ⟨(ad.add (k * 2)).block, (ad.add (k * 2)).off + 1, none⟩ = some (.int .i64 t) := by
  obtain ⟨ad, ⟨id, t⟩, c, hA, hx, _, ⟨c0, c1, rfl, h0, h1⟩, h3⟩ := C_nth h k hk
  have h0 : c0 = [.int .i64 id] := h0
  have h1 : c1 = [.int .i64 t] := h1
  subst h0 h1
  refine ⟨ad, id, t, hA, hx, ?_, ?_⟩
  · have := h3 0 _ rfl; exact this
  · have := h3 1 _ rfl; rw [← add_field ad _ 1 (by omega)]; exact this
/-- Where receipts can be told: the library's table is there; the numbers are no longer than that. -/
def RecTab (w : World) : Prop := ∃ t fr, w.heap[(2 : Nat)]? = some (.cells (Lib.pow10Tab.map fun z => Value.int .u64 z).toArray t fr)
theorem RecTab.below {w w' : World} (h : RecTab w) (hB : Below w.heap.size w w') : RecTab w' := by
  obtain ⟨t, fr, h⟩ := h
  exact ⟨t, fr, (hB.block _ (Array.getElem?_eq_some_iff.1 h).1).trans h⟩
theorem RecTab.tab {w : World} (h : RecTab w) : Lib.TabIs Tryz.prog w "internal/strconv.uint64pow10" .u64 Lib.pow10Tab := by
  obtain ⟨t, fr, h⟩ := h
  unfold Lib.TabIs World.var?
  rw [show Tryz.prog.globalNamed "internal/strconv.uint64pow10" = some (2 : Nat) by kernel_rfl]
  simp only [Option.bind_some]
  rw [h]
def RecOk (w : World) (T : Nat) : Prop := RecTab w ∧ T ≤ 999998
theorem RecOk.below {w w' : World} {T : Nat} (h : RecOk w T) (hB : Below w.heap.size w w') : RecOk w' T := ⟨h.1.below hB, h.2⟩
theorem RecOk.le {w : World} {T T' : Nat} (h : RecOk w T) (ht : T' ≤ T) : RecOk w T' := ⟨h.1, Nat.le_trans ht h.2⟩
theorem RecOk.num {w : World} {T : Nat} (h : RecOk w T) : T ≤ 1000000 := Nat.le_trans h.2 (by decide)
theorem gr_belowR (w : World) (n : Nat) (os : Array Obj) : Below w.heap.size w (grow (w.drewN n) os) :=
  ⟨rfl, rfl, rfl, by simp [grow], fun k hk => heap_grow_old (w.drewN n) os hk⟩
theorem itoa_nat (j : Nat) : Lib.itoa (j : Int) = Lib.decDigits j := by unfold Lib.itoa; rw [if_neg (by omega), Int.toNat_natCast]
theorem grow_two (w : World) (k1 k2 : Nat) (o1 o2 : Array Obj) : grow ((grow (w.drewN k1) o1).drewN k2) o2 = grow (w.drewN (k1 + k2)) (o1 ++ o2) := by
  rw [← grow_grow]
  simp [grow, World.drewN, Nat.add_assoc]
theorem receipt_bytes (i c : Nat) : (⟨(Lib.decDigits i).toArray⟩ : ByteArray) ++ ⟨#[46]⟩ ++ ⟨(Lib.decDigits c).toArray⟩ = receipt i c := by
  unfold receipt
  apply ByteArray.ext
  simp
set_option maxHeartbeats 800000 in
theorem receipt_any (id count : Int) (T : Nat) (w : World) (hr : RecOk w T) (hi : 0 ≤ id ∧ id ≤ T + 1) (hc : 0 ≤ count ∧ count ≤ T + 1) :
    Calls Tryz.prog 198 #[.int .i64 id, .int .i64 count] w fun e w' => e = .returned (.string (receipt id count)) ∧ ∃ n os, w' = grow (w.drewN n) os := by
  obtain ⟨i, rfl⟩ : ∃ i : Nat, id = i := ⟨id.toNat, by omega⟩
  obtain ⟨c, rfl⟩ : ∃ c : Nat, count = c := ⟨count.toNat, by omega⟩
  have hT := hr.2
  have h1 : i < 1000000 := by omega
  have h2 : c < 1000000 := by omega
  have d1 := Lib.nDigits_le20 i (by omega)
  have d2 := Lib.nDigits_le20 c (by omega)
  have l1 := Lib.decDigits_length i
  have l2 := Lib.decDigits_length c
  have HC1 := fun w1 (ht : RecTab w1) => Any.strconv_Itoa Tryz.itoa (i : Int) (by omega) (by omega) w1 ht.tab
  have HC2 := fun w1 (ht : RecTab w1) => Any.strconv_Itoa Tryz.itoa (c : Int) (by omega) (by omega) w1 ht.tab
  rw [itoa_nat] at HC1 HC2
  have hrc := receipt_bytes i c
  obtain ⟨s1, hs1⟩ : ∃ s : ByteArray, s = ⟨(Lib.decDigits i).toArray⟩ := ⟨_, rfl⟩
  obtain ⟨s2, hs2⟩ : ∃ s : ByteArray, s = ⟨(Lib.decDigits c).toArray⟩ := ⟨_, rfl⟩
  have z1 : s1.size ≤ 20 := by rw [hs1]; show (Lib.decDigits i).toArray.size ≤ 20; simp; omega
  have z2 : s2.size ≤ 20 := by rw [hs2]; show (Lib.decDigits c).toArray.size ≤ 20; simp; omega
  have z3 : (s1 ++ ⟨#[46]⟩).size ≤ 21 := by rw [ByteArray.size_append]; show s1.size + 1 ≤ 21; omega
  rw [← hs1, ← hs2] at hrc
  rw [← hs1] at HC1
  rw [← hs2] at HC2
  have HC1 := Lib.hid HC1
  have HC2 := Lib.hid HC2
  have HRC := Lib.hid hrc
  clear hrc hs1 hs2 l1 l2
  go_enter Tryz.func198, Tryz.ntmps198
  go_wp2_with fail
  refine Calls.mono (HC1.out w hr.1) ?_
  rintro e w1 ⟨rfl, n1, o1, hw1⟩
  have HW1 := Lib.hid hw1
  have HT1 := Lib.hid (show RecTab w1 by rw [hw1]; exact hr.1.below (gr_belowR w n1 o1))
  clear hw1
  go_wp2_with fail
  refine Calls.mono (HC2.out w1 HT1.out) ?_
  rintro e w2 ⟨rfl, n2, o2, hw2⟩
  have HW2 := Lib.hid hw2
  clear hw2
  go_wp2_with fail
  go_ret
  refine ⟨?_, n1 + n2, o1 ++ o2, ?_⟩
  · rw [← HRC.out]; rfl
  · rw [HW2.out, HW1.out]; exact grow_two _ _ _ _ _
end Go.Proofs.YtipdleiginnjmaaGreatDoor
namespace Go.Proofs.YtipdleiginnjmaaGreatDoor
open Go.RowKit Go.Maps Go.Proofs.YtipdleiginnjmaaGreatDoorW.PrintWords
open Go.Sort Go.BigFrame
section
variable {w0 w : World} {qb T : Nat} {σ : Qs} {Ps : List Asn}
theorem zero_msg (w : World) : (zeroValue 161).run Tryz.prog w = .ok (.agg #[.string ByteArray.empty, .string ByteArray.empty, .int .i64 0, .int .i64 0, .int .i64 0]) w := by kernel_rfl
/-- What a look into the map of messages tells. -/
theorem look_msg {mb : Nat} {ms : List (Int × Bod)} {id : Int} {b : Bod} (h : MapAt KI encQ w mb ms) (hw : (Lit.int .i64 id).wf = true) (hg : mget ms id = some b) :
    (Instr.lookup 107 (.map (some mb)) (.int .i64 id) false).run Tryz.prog w = .ok (encQ b) w := by
  have := h.look1 under_qu (zero_msg w) (a := id) hw
  rw [hg] at this
  exact this
theorem MapAt.gr {mb : Nat} {ms : List (Int × Bod)} (h : MapAt KI encQ w mb ms) (n : Nat) (os : Array Obj) : MapAt KI encQ (grow (w.drewN n) os) mb ms := h.below (gr_below w n os)
/-- What 'by' tells. -/
def qByR (σ : Qs) (s : ByteArray) : Int × Bool := match qBy σ s with
  | some m => (m.id, true)
  | none => (0, false)
/-- What of the timer's things was looked at: none is the one. -/
def NoneBy (σ : Qs) (s : ByteArray) (l : List It) : Prop := ∀ p ∈ l, ∀ m ∈ σ.l, m.leased = true → m.id = p.1 → m.slip ≠ s
theorem NoneBy.nil (σ : Qs) (s : ByteArray) : NoneBy σ s [] := fun _ h => absurd h (by simp)
theorem NoneBy.snoc {s : ByteArray} {l : List It} {p : It} (hi : QInv σ T) (h : NoneBy σ s l) {m : Msg} (hm : m ∈ σ.l) (he : m.id = p.1) (hn : m.slip ≠ s) : NoneBy σ s (l ++ [p]) := by
  intro q hq x hx hl hxe
  rcases List.mem_append.1 hq with hq | hq
  · exact h q hq x hx hl hxe
  · rw [List.mem_singleton.1 hq] at hxe
    rw [uniq_at hi hm x hx (hxe.trans he.symm)]
    exact hn
theorem NoneBy.all {ms : List (Int × Bod)} {s : List En} {ti : List It} {r : List (Ent Int)} {k : ByteArray} (hr : QRel σ ms s ti r) (h : NoneBy σ k ti) : qBy σ k = none :=
  qBy_none (fun m hm hl => h (m.id, m.till) (hr.ti.mem_iff.2 (List.mem_map.2 ⟨m, List.mem_filter.2 ⟨hm, by simpa using hl⟩, rfl⟩)) m hm hl rfl)
theorem QRel.tiMsg {ms : List (Int × Bod)} {s : List En} {ti : List It} {r : List (Ent Int)} (hr : QRel σ ms s ti r) {p : It} (hp : p ∈ ti) : ∃ m ∈ σ.l, m.leased = true ∧ m.id = p.1 ∧ m.till = p.2 := by
  obtain ⟨m, hm, rfl⟩ := List.mem_map.1 (hr.ti.mem_iff.1 hp)
  obtain ⟨h1, h2⟩ := List.mem_filter.1 hm
  exact ⟨m, h1, by simpa using h2, rfl, rfl⟩
theorem QInv.wf (hi : QInv σ T) (hT : T ≤ 1000000) {m : Msg} (hm : m ∈ σ.l) : (Lit.int .i64 m.id).wf = true := by
  have h1 := hi.ids m hm
  have h2 := hi.nxt
  exact wf_id (by omega)
set_option maxHeartbeats 1600000 in
set_option maxRecDepth 100000 in
theorem Hp.quBy (h : Hp w0 w (AQu qb σ T :: Ps)) (hrec : RecOk w0 T) (k : ByteArray) :
    Calls Tryz.prog 159 #[.pointer (some ⟨qb, 0, none⟩), .string k] w fun e w' => e = .returned (.tuple #[.int .i64 (qByR σ k).1, .bool (qByR σ k).2]) ∧ Hp w0 w' (AQu qb σ T :: Ps) := by
  obtain ⟨mb, lb, tb, sb, T', ms, s, ti, r, hi, hr, hT, hP⟩ := h.quOpen'
  have hb := hP.blk0
  have q11 : w.cell? ⟨qb, 11, none⟩ = some (.pointer (some ⟨tb, 0, none⟩)) := blk_cell hb 11
  have hT6 := hrec.num
  have HP := Lib.hid hP.up3
  have HI := Lib.hid hi
  have HR := Lib.hid hr
  have htl : ti.length ≤ 1024 := by have := hr.tLen; have := hi.len; omega
  have HREC := Lib.hid hrec
  have mixed : Tryz.prog.follows .mixedOrders = true := by kernel_rfl
  obtain ⟨⟨b1, b2⟩, hbr⟩ : ∃ b, b = qByR σ k := ⟨_, rfl⟩
  rw [← hbr]
  have HBR := Lib.hid hbr
  clear hb hP hr hi h hrec hbr
  go_enter Tryz.func159, Tryz.ntmps159
  go_wp2_with fail
  refine Calls.mono (HP.out.tmAll (by omega)) ?_
  rintro e w2 ⟨A, c, rfl, hP2⟩
  obtain ⟨n, hn⟩ : ∃ n, n = ti.length := ⟨_, rfl⟩
  rw [← hn] at hP2 htl ⊢
  have HN := Lib.hid hn
  have HP2 := Lib.hid hP2
  clear hP2 hn q11
  go_wp2_with fail
  go_loopw [14] (fun i wr => ∃ j : Nat, i = .int .i64 j ∧ j ≤ n ∧ NoneBy σ k (ti.take j) ∧ Hp w0 wr (AIt (.slice A n c) ti :: ATm tb ti :: ABlk qb (quObj σ mb lb tb sb) :: AMp mb ms :: ALn lb s T' :: ALdI sb 4096 r :: Ps)) (fun i _ => n - (intOf i).toNat)
  case atStart => exact ⟨0, rfl, Nat.zero_le _, by rw [List.take_zero]; exact NoneBy.nil _ _, HP2.out⟩
  case round =>
    obtain ⟨j, rfl, hj, hnone, hQ⟩ := hrel
    have HQ := Lib.hid hQ
    have HNO := Lib.hid hnone
    clear hQ hnone
    by_cases hjn : j < n
    · obtain ⟨ad, id, t, rfl, hx, d0, d1⟩ := C_nth_it (Kd.R_reads' HQ.out.head).2.2 j (by have := HN.out; omega)
      obtain ⟨m, hm, hl, hid, ht⟩ := HR.out.tiMsg (List.mem_of_getElem? hx)
      have hid : m.id = id := hid
      subst hid
      have i0 : (0 : Int) ≤ (j : Int) := by omega
      have i1 : (j : Int) < (n : Int) := by omega
      have HTK := Lib.hid (take_snoc' hx)
      have hwf := HI.out.wf hT6 hm
      have hcnt := HI.out.cnt m hm
      have hids := HI.out.ids m hm
      have hnx := HI.out.nxt
      have HM := Lib.hid hm
      have HML := Lib.hid hl
      have HG := Lib.hid (HR.out.get HI.out hm)
      clear hx ht hm hl
      have HA := Lib.hid (HQ.out.alloc (.cells #[.int .i64 m.id, .int .i64 t] 245))
      have hA := HA.out
      have hl0 := blk_lt hA.blk0
      have hl1 := blk_lt hA.blk3
      have g0 := fun n os => cell_grown (a := ⟨wr.heap.size, 0, none⟩) hl0 (v := .int .i64 m.id) (blk_cell hA.blk0 0) n os
      have g9 := fun n os => cell_grown (a := ⟨qb, 9, none⟩) hl1 (v := .map (some mb)) (blk_cell hA.blk3 9) n os
      have hM := (hA.tail.tail.tail.tail.head : (AMp mb ms).pred _ _).2
      have lk := fun n os => look_msg (hM.gr n os) hwf HG.out
      have HGB := Lib.hid (fun n os => hA.below (gr_below _ n os))
      have HRC := Lib.hid (fun n os => receipt_any m.id m.count T _ (HREC.out.below (HGB.out n os).belowW) ⟨by omega, by omega⟩ ⟨hcnt.1, by omega⟩)
      have hc0 := blk_cell hA.blk0 0
      simp only [List.getElem?_toArray, List.getElem?_cons_zero] at hc0
      unfold encQ Msg.bod at lk
      dsimp only at lk
      have f3 : ∀ w : World, (Instr.field 161 (.agg #[.string m.body, .string m.group, .int .i64 m.sent, .int .i64 m.count, .int .i64 m.at_]) 3).run Tryz.prog w = .ok (.int .i64 m.count) w := fun w => by kernel_rfl
      clear hA hl0 hl1 hM
      by_cases hmk : m.slip = k
      case' neg =>
        have hsb : (m.slip.toList == k.toList) = false := by
          rw [Go.ByteArray.toList_eq, Go.ByteArray.toList_eq, beq_eq_false_iff_ne]
          exact fun e => hmk (ByteArray.ext (Array.toList_inj.1 e))
      case' pos =>
        have hsb : (m.slip.toList == k.toList) = true := by rw [hmk]; simp
      all_goals
        unfold Msg.slip at hsb
        go_wp2_with fail
        refine wp_region_quiet_grown mixed (by kernel_rfl) ?_
        repeat (go_big_quiet_step ((go_at_call 198; refine Calls.grown_of (HRC.out _ _))))
        refine wpQuiet_nil ?_
        intro _ hw'
        obtain ⟨⟨nq, osq⟩, hw''⟩ := hw'
        subst hw''
        have HB := Lib.hid (HGB.out nq osq)
        have g0 := g0 nq osq
        clear g9 lk hc0 f3
        generalize grow ((wr.alloc (.cells #[.int .i64 m.id, .int .i64 t] 245)).drewN nq) osq = wg at *
        go_wp2_with fail
      · go_ret2
        have hbr : (b1, b2) = (m.id, true) := by
          rw [HBR.out, ← hmk]
          unfold qByR
          rw [qBy_of HI.out HM.out HML.out]
        injection hbr with h1 h2
        subst h1 h2
        exact ⟨rfl, Hp.quShut' (HB.out.tail.tail.down3) HI.out HR.out hT⟩
      · go_roundw
        case measure =>
          simp [intOf]
          omega
        case rel =>
          refine ⟨j + 1, by simp, by omega, ?_, HB.out.tail⟩
          rw [HTK.out]
          exact HNO.out.snoc HI.out HM.out rfl hmk
    · have hjn' : j = n := by omega
      subst hjn'
      have hno := HNO.out
      rw [List.take_of_length_le (by have := HN.out; omega)] at hno
      have hbr : (b1, b2) = (0, false) := by
        rw [HBR.out]
        unfold qByR
        rw [hno.all HR.out]
      injection hbr with h1 h2
      subst h1 h2
      clear hno
      go_wp2_with fail
      go_ret2
      exact ⟨rfl, Hp.quShut' (HQ.out.tail.down3) HI.out HR.out hT⟩
end
end Go.Proofs.YtipdleiginnjmaaGreatDoor
namespace Go.Proofs.YtipdleiginnjmaaGreatDoor
open Go.RowKit Go.Maps Go.Proofs.YtipdleiginnjmaaGreatDoorW.PrintWords
open Go.Sort Go.BigFrame
section
variable {w0 w : World} {qb T : Nat} {σ : Qs} {Ps : List Asn}
set_option maxHeartbeats 800000 in
set_option maxRecDepth 100000 in
theorem Hp.quAck (h : Hp w0 w (AQu qb σ T :: Ps)) (hrec : RecOk w0 T) (k : ByteArray) :
    Calls Tryz.prog 117 #[.pointer (some ⟨qb, 0, none⟩), .string k] w fun e w' => e = .returned (.tuple #[.int .i64 (qAck σ k).2.1, .int .i64 (qAck σ k).2.2]) ∧ Hp w0 w' (AQu qb (qAck σ k).1 T :: Ps) := by
  have H := Lib.hid h
  have HREC := Lib.hid hrec
  obtain ⟨mb, lb, tb, sb, T', ms, s, ti, r, hi, hr, hT, hP⟩ := h.quOpen'
  have HI := Lib.hid hi
  clear h hrec hP hr hi
  cases hb : qBy σ k with
  | none =>
    have e1 : qByR σ k = (0, false) := by unfold qByR; rw [hb]
    have e2 : qAck σ k = (σ, (0, 8)) := by unfold qAck; rw [hb]
    rw [e2]
    have E1 := Lib.hid e1
    clear hb e1 e2
    go_enter Tryz.func117, Tryz.ntmps117
    go_wp2_with fail
    refine Calls.mono (H.out.quBy HREC.out k) ?_
    rintro e w2 ⟨rfl, hP2⟩
    rw [E1.out]
    have HP2 := Lib.hid hP2
    clear hP2
    go_wp2_with fail
    go_ret2
    exact ⟨rfl, HP2.out⟩
  | some m =>
    have e1 : qByR σ k = (m.id, true) := by unfold qByR; rw [hb]
    have e2 : qAck σ k = (qDrop σ m.id, (m.id, 0)) := by unfold qAck; rw [hb]
    rw [e2]
    have E1 := Lib.hid e1
    have hwf := HI.out.wf HREC.out.num (qBy_some hb).1
    clear hb e1 e2
    go_enter Tryz.func117, Tryz.ntmps117
    go_wp2_with fail
    refine Calls.mono (H.out.quBy HREC.out k) ?_
    rintro e w2 ⟨rfl, hP2⟩
    rw [E1.out]
    have HP2 := Lib.hid hP2
    clear hP2
    go_wp2_with fail
    refine Calls.mono (HP2.out.quDrop m.id hwf HREC.out.num) ?_
    rintro e w3 ⟨rfl, hP3⟩
    have HP3 := Lib.hid hP3
    clear hP3
    go_wp2_with fail
    go_ret2
    exact ⟨rfl, HP3.out⟩
theorem C_nth_int {w : World} {A : Option Addr} {n : Nat} {xs : List Int} (h : (Kd.int .i64).C w A n xs) (k : Nat) (hk : k < n) : ∃ ad x, A = some ad ∧ xs[k]? = some x ∧ w.cell? (ad.add k) = some (.int .i64 x) := C_nth_scalar h k hk
set_option maxHeartbeats 800000 in
set_option maxRecDepth 100000 in
theorem Hp.quPurge (h : Hp w0 w (AQu qb σ T :: Ps)) (hT6 : T ≤ 1000000) :
    Calls Tryz.prog 112 #[.pointer (some ⟨qb, 0, none⟩)] w fun e w' => e = .returned (.int .i64 σ.l.length) ∧ Hp w0 w' (AQu qb (qPurge σ) T :: Ps) := by
  have H := Lib.hid h
  obtain ⟨mb, lb, tb, sb, T', ms, s, ti, r, hi, hr, hT, hP⟩ := h.quOpen'
  have HI := Lib.hid hi
  have hlen := hi.len
  clear h hP hr hi
  go_enter Tryz.func112, Tryz.ntmps112
  go_wp2_with fail
  refine Calls.mono (H.out.quIds hT6) ?_
  rintro e w2 ⟨A, c, rfl, hP2⟩
  obtain ⟨n, hn⟩ : ∃ n, n = σ.l.length := ⟨_, rfl⟩
  rw [← hn] at hP2 hlen ⊢
  have HN := Lib.hid hn
  have HP2 := Lib.hid hP2
  clear hP2 hn
  go_wp2_with fail
  go_loopw [10] (fun i wr => ∃ j : Nat, i = .int .i64 j ∧ j ≤ n ∧ Hp w0 wr (AInt (.slice A n c) (σ.l.map (·.id)) :: AQu qb { σ with l := σ.l.drop j } T :: Ps)) (fun i _ => n - (intOf i).toNat)
  case atStart => exact ⟨0, rfl, Nat.zero_le _, HP2.out⟩
  case round =>
    obtain ⟨j, rfl, hj, hQ⟩ := hrel
    have HQ := Lib.hid hQ
    clear hQ
    by_cases hjn : j < n
    · obtain ⟨ad, x, rfl, hx, d0⟩ := C_nth_int (Kd.R_reads' HQ.out.head).2.2 j (by rw [List.length_map]; have := HN.out; omega)
      obtain ⟨m, hm, rfl⟩ : ∃ m, σ.l[j]? = some m ∧ m.id = x := by
        rw [List.getElem?_map] at hx
        exact Option.map_eq_some_iff.1 hx
      have i0 : (0 : Int) ≤ (j : Int) := by omega
      have i1 : (j : Int) < (n : Int) := by omega
      have hwf := HI.out.wf hT6 (mem_at hm)
      have HD := Lib.hid (drop_head HI.out hm)
      clear hx hm
      go_wp2_with fail
      refine Calls.mono (HQ.out.swap.quDrop m.id hwf hT6) ?_
      rintro e w3 ⟨rfl, hP3⟩
      rw [HD.out] at hP3
      have HP3 := Lib.hid hP3.swap
      clear hP3 d0
      go_wp2_with fail
      go_roundw
      case measure =>
        simp [intOf]
        omega
      case rel => exact ⟨j + 1, by simp, by omega, HP3.out⟩
    · have hjn' : j = n := by omega
      subst hjn'
      have hQ := HQ.out.tail
      rw [List.drop_of_length_le (by have := HN.out; omega)] at hQ
      have HQ2 := Lib.hid hQ
      clear hQ
      go_wp2_with fail
      go_ret
      rw [← HN.out]
      exact ⟨rfl, HQ2.out⟩
theorem QRel.upT {ms : List (Int × Bod)} {s : List En} {ti : List It} {r : List (Ent Int)} (h : QRel σ ms s ti r) (hi : QInv σ T) {m : Msg} (hm : m ∈ σ.l) {f : Msg → Msg} (hid : (f m).id = m.id) (hb : (f m).bod = m.bod) :
    QRel (qUp σ m.id f) ms s (if (f m).leased then tSet ti m.id (f m).till else tDrop ti m.id) r := by
  have hg : (f m).group = m.group := congrArg (fun b : Bod => b.2.1) hb
  have h2 := h.up hi hm hid hg
  refine ⟨h.ms.trans (List.Perm.of_eq ?_), h2.s, h2.ti, h.r⟩
  show _ = (σ.l.map _).map _
  rw [List.map_map]
  apply List.map_congr_left
  intro x hx
  simp only [Function.comp]
  by_cases e : x.id = m.id
  · rw [uniq_at hi hm x hx e, if_pos rfl, hid, hb]
  · rw [if_neg e]
end
end Go.Proofs.YtipdleiginnjmaaGreatDoor
namespace Go.Proofs.YtipdleiginnjmaaGreatDoor
open Go.RowKit Go.Maps Go.Proofs.YtipdleiginnjmaaGreatDoorW.PrintWords
open Go.Sort Go.BigFrame
section
variable {w0 w : World} {qb T : Nat} {σ : Qs} {Ps : List Asn}
set_option maxHeartbeats 1600000 in
set_option maxRecDepth 100000 in
theorem Hp.quExt (h : Hp w0 w (AQu qb σ T :: Ps)) (hrec : RecOk w0 T) (k : ByteArray) (vis : Int) :
    Calls Tryz.prog 118 #[.pointer (some ⟨qb, 0, none⟩), .string k, .int .i64 vis] w fun e w' => e = .returned (.int .i64 (qExt σ k vis).2) ∧ Hp w0 w' (AQu qb (qExt σ k vis).1 T :: Ps) := by
  have H := Lib.hid h
  have HREC := Lib.hid hrec
  obtain ⟨mb0, lb0, tb0, sb0, T0, ms0, s0, ti0, r0, hi, _, _, _⟩ := h.quOpen'
  have HI := Lib.hid hi
  clear h hrec hi
  obtain ⟨⟨b1, b2⟩, hbr⟩ : ∃ b, b = qByR σ k := ⟨_, rfl⟩
  have HBR := Lib.hid hbr
  clear hbr
  by_cases hv : 0 ≤ vis ∧ vis ≤ 1048576
  case neg =>
    have hs : spanB vis 0 = false := decide_eq_false hv
    have e2 : qExt σ k vis = (σ, 1) := by unfold qExt; rw [if_neg hv]
    rw [e2]
    clear hv e2
    go_enter Tryz.func118, Tryz.ntmps118
    go_wp2_with fail
    refine Calls.mono (H.out.quBy HREC.out k) ?_
    rintro e w2 ⟨rfl, hP2⟩
    rw [← HBR.out]
    have HP2 := Lib.hid hP2
    clear hP2
    go_wp2_with (go_at_call 160; refine Calls.mono (span_any _ _ _) ?_; rintro e w' ⟨rfl, rfl⟩)
    go_ret
    exact ⟨rfl, HP2.out⟩
  have hs : spanB vis 0 = true := decide_eq_true hv
  have hv0 := hv.1
  have hv1 := hv.2
  cases hb : qBy σ k with
  | none =>
    have e1 : (b1, b2) = (0, false) := by rw [HBR.out]; unfold qByR; rw [hb]
    have e2 : qExt σ k vis = (σ, 8) := by unfold qExt; rw [if_pos hv, hb]
    rw [e2]
    injection e1 with e3 e4
    subst e3 e4
    clear hv e2 hb
    go_enter Tryz.func118, Tryz.ntmps118
    go_wp2_with fail
    refine Calls.mono (H.out.quBy HREC.out k) ?_
    rintro e w2 ⟨rfl, hP2⟩
    rw [← HBR.out]
    have HP2 := Lib.hid hP2
    clear hP2
    go_wp2_with (go_at_call 160; refine Calls.mono (span_any _ _ _) ?_; rintro e w' ⟨rfl, rfl⟩)
    go_ret
    exact ⟨rfl, HP2.out⟩
  | some m =>
    have e1 : (b1, b2) = (m.id, true) := by rw [HBR.out]; unfold qByR; rw [hb]
    have hm := (qBy_some hb).1
    have hwf := HI.out.wf HREC.out.num hm
    have hnow := HI.out.now
    have HM := Lib.hid hm
    injection e1 with e3 e4
    subst e3 e4
    by_cases hv2 : 0 < vis
    · have e2 : qExt σ k vis = (qLast σ m.id (σ.now + vis), 0) := by unfold qExt; rw [if_pos hv, hb]; dsimp only; rw [if_pos hv2]
      rw [e2]
      clear hv e2 hb hm
      go_enter Tryz.func118, Tryz.ntmps118
      go_wp2_with fail
      refine Calls.mono (H.out.quBy HREC.out k) ?_
      rintro e w2 ⟨rfl, hP2⟩
      rw [← HBR.out]
      obtain ⟨mb, lb, tb, sb, T', ms, s, ti, r, hi, hr, hT, hP⟩ := hP2.quOpen'
      have HP2 := Lib.hid (hP.below (Below.refl _ _).drew).up3
      have HR := Lib.hid hr
      have htl : ti.length < 1000000 := by have := hr.tLen; have := hi.len; omega
      have q11 : w2.cell? ⟨qb, 11, none⟩ = some (.pointer (some ⟨tb, 0, none⟩)) := blk_cell hP.blk0 11
      have q7 : w2.cell? ⟨qb, 7, none⟩ = some (.int .i64 σ.now) := blk_cell hP.blk0 7
      clear hP2 hP hr hi
      go_wp2_with (go_at_call 160; refine Calls.mono (span_any _ _ _) ?_; rintro e w' ⟨rfl, rfl⟩)
      go_still_tail 11, (by kernel_rfl)
      change wpList _ _ _ _ _ w2.drew
      generalize w2.drew = wd at *
      go_wp2_with fail
      refine Calls.mono (HP2.out.tmSet m.id (σ.now + vis) hwf htl) ?_
      rintro e w3 ⟨rfl, hP3⟩
      have HP3 := Lib.hid hP3.down3
      clear hP3
      go_wp2_with fail
      go_ret
      refine ⟨rfl, Hp.quShut' (σ := qLast σ m.id (σ.now + vis)) HP3.out (HI.out.last m.id (by omega)) ?_ hT⟩
      have := HR.out.upT HI.out HM.out (f := fun x => { x with leased := true, till := σ.now + vis }) rfl rfl
      exact this
    · have e2 : qExt σ k vis = (qEnd σ m.id, 0) := by unfold qExt; rw [if_pos hv, hb]; dsimp only; rw [if_neg hv2]
      rw [e2]
      clear hv e2 hb hm
      go_enter Tryz.func118, Tryz.ntmps118
      go_wp2_with fail
      refine Calls.mono (H.out.quBy HREC.out k) ?_
      rintro e w2 ⟨rfl, hP2⟩
      rw [← HBR.out]
      obtain ⟨mb, lb, tb, sb, T', ms, s, ti, r, hi, hr, hT, hP⟩ := hP2.quOpen'
      have HP2 := Lib.hid hP.up3
      have HR := Lib.hid hr
      have htl : ti.length ≤ 1000000 := by have := hr.tLen; have := hi.len; omega
      have HML := Lib.hid (show ms.length ≤ 1024 by rw [hr.len]; exact hi.len)
      have q11 : w2.cell? ⟨qb, 11, none⟩ = some (.pointer (some ⟨tb, 0, none⟩)) := blk_cell hP.blk0 11
      clear hP2 hP hr hi
      go_wp2_with (go_at_call 160; refine Calls.mono (span_any _ _ _) ?_; rintro e w' ⟨rfl, rfl⟩)
      refine Calls.mono (HP2.out.tmDrop m.id hwf htl) ?_
      rintro e w3 ⟨rfl, hP3⟩
      have hP3 := hP3.down3
      have q9 : w3.cell? ⟨qb, 9, none⟩ = some (.map (some mb)) := blk_cell hP3.blk0 9
      have q7 : w3.cell? ⟨qb, 7, none⟩ = some (.int .i64 σ.now) := blk_cell hP3.blk0 7
      have hql := blk_lt hP3.blk0
      have lk := look_msg (hP3.swap.head : (AMp mb ms).pred _ _).2 hwf (HR.out.get HI.out HM.out)
      unfold encQ Msg.bod at lk
      dsimp only at lk
      have HP3 := Lib.hid hP3
      clear hP3 q11
      have hml : ms.length < maxLen := by have := HML.out; simp [maxLen]; omega
      have HA0 := Lib.hid (HP3.out.alloc (.cells #[.string m.body, .string m.group, .int .i64 m.sent, .int .i64 m.count, .int .i64 σ.now] 161))
      have HA := Lib.hid (HA0.out.below (Below.refl _ _).drew)
      go_wp2_with fail
      have b0 := blk_cell HA0.out.blk0 0
      have b1 := blk_cell HA0.out.blk0 1
      have b2 := blk_cell HA0.out.blk0 2
      have b3 := blk_cell HA0.out.blk0 3
      have b4 := blk_cell HA0.out.blk0 4
      have p9 : (w3.alloc (.cells #[.string m.body, .string m.group, .int .i64 m.sent, .int .i64 m.count, .int .i64 σ.now] 161)).cell? ⟨qb, 9, none⟩ = some (.map (some mb)) := blk_cell HA0.out.blk1 9
      simp only [List.getElem?_toArray, List.getElem?_cons_zero, List.getElem?_cons_succ] at b0 b1 b2 b3 b4
      generalize w3.alloc (.cells #[.string m.body, .string m.group, .int .i64 m.sent, .int .i64 m.count, .int .i64 σ.now] 161) = W at *
      go_still_tail 6, (by kernel_rfl)
      change wpList _ _ _ _ _ W.drew
      refine wpList_put_at (K := KI) (enc := encQ) HA.out.up2.mapUse.1 (by rfl) (.tmp 58) (.tmp 59) (.tmp 60) 107 161 rfl under_qu hml rfl m.id (m.body, (m.group, (m.sent, (m.count, σ.now)))) rfl rfl hwf ?_
      intro w6 hM6 hB6
      have HP6 := Lib.hid (HA.out.up2.mapUse.2 w6 _ hM6 hB6)
      clear b0 b1 b2 b3 b4 p9 lk q9 q7 hM6 hB6
      go_wp2_with fail
      go_ret
      refine ⟨rfl, Hp.quShut' (σ := qEnd σ m.id) HP6.out.drop1.swap (HI.out.endNow m.id) ?_ hT⟩
      have := HR.out.up HI.out HM.out (f := fun x => { x with leased := false, till := 0, at_ := σ.now }) rfl rfl
      exact this
end
end Go.Proofs.YtipdleiginnjmaaGreatDoor
