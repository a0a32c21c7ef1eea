/- Put together: shop.New, (*Shop).Now, (*Shop).Queue. · How much a shop holds; a shop behind so many commands. · Commands as arguments: a row of them reads as plain data. · law09.Few of any commands. -/
import Derived.Test.YtipdleiginnjmaaGreatDoorH14
import Derived.Test.YtipdleiginnjmaaGreatDoorH1
import Derived.Laws.Tables
set_option linter.unusedVariables false
set_option linter.unusedSimpArgs false
set_option linter.unusedVariables false
set_option linter.unusedSimpArgs false
namespace Go.Proofs.YtipdleiginnjmaaGreatDoor
open Go.RowKit Go.Maps Go.Proofs.YtipdleiginnjmaaGreatDoorW.PrintWords Go.Proofs.YtipdleiginnjmaaGreatDoorW.PrintLast
theorem ShInv.new : ShInv shNew 0 := ⟨by decide, Ris.nil, by decide, fun p hp => absurd hp List.not_mem_nil, fun p hp => absurd hp List.not_mem_nil, fun p hp => absurd hp List.not_mem_nil, List.nodup_nil, by decide, fun p hp => absurd hp List.not_mem_nil, fun p hp => absurd hp List.not_mem_nil⟩
section
variable {w0 w : World} {Ps : List Asn} {sb mb lb T : Nat}
set_option maxHeartbeats 1600000 in
set_option maxRecDepth 100000 in
theorem Hp.shNewC (h : Hp w0 w Ps) : Calls Tryz.prog 16 #[] w fun e w' => ∃ sb, e = .returned (.pointer (some ⟨sb, 0, none⟩)) ∧ Hp w0 w' (AShR sb shNew 0 [] :: ARs [] :: Ps) := by
  have hp := ((h.alloc (.map #[] 0)).alloc (.map #[] 0)).alloc (.cells #[.int .i64 0, .map (some w.heap.size), .map (some (w.alloc (.map #[] 0)).heap.size)] 93)
  have HP := Lib.hid hp
  clear hp h
  have hmm := @run_makeMap Tryz.prog
  go_enter Tryz.func16, Tryz.ntmps16
  go_wp2_with fail
  go_ret
  refine ⟨_, rfl, ?_⟩
  have h0 := HP.out
  rw [show ((w.alloc (.map #[] 0)).alloc (.map #[] 0)).heap.size = w.heap.size + 1 + 1 by simp, show (w.alloc (.map #[] 0)).heap.size = w.heap.size + 1 by simp] at h0
  have h1 := (h0.up2.mgOf KG encB).up2.mgOf KI encD
  have h2 : Hp w0 _ (ABlk (w.heap.size + 1 + 1) (.cells #[.int .i64 0, .map (some w.heap.size), .map (some (w.heap.size + 1))] 93 (0, 0)) :: AMg KG encB w.heap.size [] :: AQs [] 0 :: AMg KI encD (w.heap.size + 1) [] :: ARs [] :: Ps) := (h1.rsNil.qsNil 0).perm (by (repeat (first | (with_reducible exact List.Perm.refl _) | (with_reducible refine pb0 ?_) | (with_reducible refine pb1 ?_) | (with_reducible refine pb2 ?_) | (with_reducible refine pb3 ?_) | (with_reducible refine pb4 ?_) | (with_reducible refine pb5 ?_) | (with_reducible refine pb6 ?_) | (with_reducible refine pb7 ?_) | (with_reducible refine pb8 ?_) | (with_reducible refine pb9 ?_) | (with_reducible refine pb10 ?_) | (with_reducible refine pb11 ?_) | (with_reducible refine pb12 ?_) | (with_reducible refine pb13 ?_) | (with_reducible refine pb14 ?_) | (with_reducible refine pb15 ?_))))
  exact Hp.srShut (q := []) (d := []) h2 ShInv.new ⟨rfl, rfl⟩ (fun x hx => absurd hx List.not_mem_nil)
set_option maxHeartbeats 1600000 in
theorem Hp.shNowC {now : Int} {a b : Value} (h : Hp w0 w (ABlk sb (.cells #[.int .i64 now, a, b] 93 (0, 0)) :: Ps)) : Calls Tryz.prog 24 #[.pointer (some ⟨sb, 0, none⟩)] w fun e w' => e = .returned (.int .i64 now) ∧ w = w' := by
  have s0 : w.cell? ⟨sb, 0, none⟩ = some (.int .i64 now) := blk_cell h.blk0 0
  clear h
  go_enter Tryz.func24, Tryz.ntmps24
  go_wp2_with fail
  go_ret
  exact ⟨rfl, rfl⟩
set_option maxHeartbeats 1600000 in
theorem Hp.shQueueC {nv lv : Value} {ms : List (ByteArray × Nat)} (h : Hp w0 w (ABlk sb (.cells #[nv, .map (some mb), lv] 93 (0, 0)) :: AMg KG encB mb ms :: Ps)) {k : ByteArray} (hk : k.size ≤ maxLen) : Calls Tryz.prog 25 #[.pointer (some ⟨sb, 0, none⟩), .string k] w fun e w' => e = .returned (.tuple #[((mget ms k).map encB).getD (.pointer none), .bool (mget ms k).isSome]) ∧ w = w' := by
  have s1 : w.cell? ⟨sb, 1, none⟩ = some (.map (some mb)) := blk_cell h.blk0 1
  have lk := lookQ h.tail.mgUse.1 hk
  clear h
  go_enter Tryz.func25, Tryz.ntmps25
  go_wp2_with fail
  go_ret2
  exact ⟨rfl, rfl⟩
end
end Go.Proofs.YtipdleiginnjmaaGreatDoor
set_option linter.unusedVariables false
namespace Go.Proofs.YtipdleiginnjmaaGreatDoor
open Go.RowKit Go.Maps Go.Proofs.YtipdleiginnjmaaGreatDoorW.PrintWords
def tot (l : List Nq) : Nat := (l.map (fun p => p.2.l.length)).sum
theorem tot_cons (p : Nq) (l : List Nq) : tot (p :: l) = p.2.l.length + tot l := rfl
theorem tot_append (l m : List Nq) : tot (l ++ m) = tot l + tot m := by unfold tot; rw [List.map_append, List.sum_append]
theorem tot_perm {l m : List Nq} (h : l.Perm m) : tot l = tot m := (h.map _).sum_nat
theorem tot_filter (f : Nq → Bool) : ∀ l : List Nq, tot (l.filter f) ≤ tot l
  | [] => Nat.le_refl _
  | p :: l => by
    have := tot_filter f l
    rw [List.filter_cons]
    split
    · rw [tot_cons, tot_cons]; omega
    · rw [tot_cons]; omega
theorem tot_upd {l : List Nq} (hn : (l.map (·.1)).Nodup) {k : ByteArray} {σ σ' : Qs} (hg : mget l k = some σ) {d : Nat} (h : σ'.l.length ≤ σ.l.length + d) : tot (mupd l k σ') ≤ tot l + d := by
  obtain ⟨l1, l2, rfl⟩ := mget_split hg
  rw [mupd_split hn, tot_append, tot_append, tot_cons, tot_cons]
  dsimp only
  omega
theorem len_send (σ : Qs) (b g k : ByteArray) (d : Int) : (qSend σ b g k d).1.l.length ≤ σ.l.length + 1 := by
  unfold qSend
  split
  · exact Nat.le_succ _
  · split
    · exact Nat.le_succ _
    · split
      · exact Nat.le_succ _
      · show (σ.l ++ [_]).length ≤ _
        rw [List.length_append]; exact Nat.le_refl _
theorem len_ack (σ : Qs) (s : ByteArray) : (qAck σ s).1.l.length ≤ σ.l.length := by
  unfold qAck
  cases qBy σ s with
  | none => exact Nat.le_refl _
  | some m => exact List.length_filter_le _ _
theorem len_ext (σ : Qs) (s : ByteArray) (v : Int) : (qExt σ s v).1.l.length ≤ σ.l.length := by
  unfold qExt
  split
  · cases qBy σ s with
    | none => exact Nat.le_refl _
    | some m =>
      dsimp only
      split
      · show (σ.l.map _).length ≤ _
        rw [List.length_map]; exact Nat.le_refl _
      · show (σ.l.map _).length ≤ _
        rw [List.length_map]; exact Nat.le_refl _
  · exact Nat.le_refl _
theorem len_rcv (σ : Qs) (n v : Int) : (qRcv σ n v).1.l.length ≤ σ.l.length := by
  unfold qRcv
  split
  · show (σ.l.map _).length ≤ _
    rw [List.length_map]; exact Nat.le_refl _
  · exact Nat.le_refl _
theorem len_set (σ : Qs) (a : QA) : (qSet σ a).l.length ≤ σ.l.length := by unfold qSet; split <;> exact Nat.le_refl _
theorem len_batch (g : ByteArray) (n : Int) : ∀ (bs : List ByteArray) (σ : Qs) (acc : List Int), (qBatch σ g n bs acc).1.l.length ≤ σ.l.length + bs.length
  | [], σ, acc => Nat.le_refl _
  | b :: bs, σ, acc => by
    rw [qBatch_step]
    have h1 := len_send σ b g ⟨#[]⟩ n
    split
    · have h2 := len_batch g n bs (qSend σ b g ⟨#[]⟩ n).1 (acc ++ [(qSend σ b g ⟨#[]⟩ n).2.1])
      rw [List.length_cons]; omega
    · rw [List.length_cons]; dsimp only; omega
theorem len_of (σ : Qs) (c : Cm) : (shOf σ c).1.l.length ≤ σ.l.length + 10 := by
  unfold shOf
  split
  · exact Nat.zero_le _
  split
  · have := len_set σ c.a; dsimp only; omega
  split
  · have := len_send σ c.body c.group c.key c.n; dsimp only; omega
  split
  · unfold shBatch
    split
    · exact Nat.le_add_right _ _
    · have := len_batch c.group c.n c.bodies σ []; omega
  split
  · have := len_rcv σ c.n c.m; unfold shRecv; dsimp only; omega
  split
  · have := len_ack σ c.receipt; dsimp only; omega
  · have := len_ext σ c.receipt c.n; dsimp only; omega
theorem part_len (f g : Msg → Bool) (h : ∀ m, f m = true → g m = true → False) : ∀ l : List Msg, (l.filter f).length + (l.filter g).length ≤ l.length
  | [] => Nat.le_refl _
  | m :: l => by
    have ih := part_len f g h l
    rw [List.filter_cons, List.filter_cons]
    cases hf : f m <;> cases hg : g m
    · simp; omega
    · simp; omega
    · simp; omega
    · exact (h m hf hg).elim
theorem len_tck (σ : Qs) (n : Int) : (qTck σ n).1.l.length + (qTck σ n).2.1.length ≤ σ.l.length := by
  unfold qTck
  split
  · show ((σ.l.filter (fun m => m.stays σ.a n)).map (fun m => m.lapse n)).length + ((σ.l.filter (fun m => m.dies σ.a n)).map Msg.lt).length ≤ _
    rw [List.length_map, List.length_map]
    refine part_len _ _ (fun m h1 h2 => ?_) _
    unfold Msg.stays at h1
    rw [h2] at h1
    simp at h1
  · exact Nat.le_refl _
theorem tot_tick (n : Int) : ∀ l : List Nq, tot (tkAll l n) + (tkMoves l n).length ≤ tot l
  | [] => Nat.le_refl _
  | p :: l => by
    have h1 := tot_tick n l
    have h2 := len_tck p.2 n
    have e1 : tkAll (p :: l) n = (p.1, (qTck p.2 n).1) :: tkAll l n := rfl
    have e2 : (tkMoves (p :: l) n).length = (qTck p.2 n).2.1.length + (tkMoves l n).length := by unfold tkMoves; rw [List.flatMap_cons, List.length_append, List.length_map]
    rw [e1, e2, tot_cons, tot_cons]
    dsimp only
    omega
theorem tot_move {l : List Nq} (hn : (l.map (·.1)).Nodup) (v : Mv) : tot (shMove l v) ≤ tot l + 1 := by
  unfold shMove
  cases hg : mget l v.1 with
  | none => exact Nat.le_succ _
  | some σ => exact tot_upd hn hg (len_send _ _ _ _ _)
theorem move_keys (l : List Nq) (v : Mv) : (shMove l v).map (·.1) = l.map (·.1) := by
  unfold shMove
  cases hg : mget l v.1 with
  | none => rfl
  | some σ => exact mupd_keys _ _ _
theorem tot_moves : ∀ (vs : List Mv) {l : List Nq}, (l.map (·.1)).Nodup → tot (shMoves l vs).1 ≤ tot l + vs.length
  | [], l, _ => Nat.le_refl _
  | v :: vs, l, hn => by
    rw [moves_step, List.length_cons]
    have h1 := tot_move hn v
    have h2 := tot_moves vs (l := shMove l v) (by rw [move_keys]; exact hn)
    dsimp only
    omega
theorem tot_happen {S : Sh} {T : Nat} (h : ShInv S T) (c : Cm) : tot (shHappen S c).1.l ≤ tot S.l + 10 := by
  have hn := h.ris.keys
  have same : ∀ n : Int, shHappen S c = (S, .fail n) → tot (shHappen S c).1.l ≤ tot S.l + 10 := fun n e => by rw [e]; exact Nat.le_add_right _ _
  by_cases hb : c.kind < 0 ∨ 9 < c.kind
  · exact same 1 (hap_bad hb)
  by_cases h0 : c.kind = 0
  · by_cases ht : c.n < S.now ∨ 1099511627776 < c.n
    · exact same 1 ((hap_0 h0).trans (tick_no ht))
    · rw [hap_0 h0, tick_yes ht]
      have h1 := tot_tick c.n S.l
      have h2 := tot_moves (tkMoves S.l c.n) (l := tkAll S.l c.n) (by unfold tkAll; rw [List.map_map]; exact hn)
      dsimp only
      omega
  by_cases h1 : c.kind = 1
  · rw [hap_1 h1]
    unfold shCreate
    split
    · exact Nat.le_add_right _ _
    split
    · exact Nat.le_add_right _ _
    split
    · exact Nat.le_add_right _ _
    rename_i e1 e2 e3
    have hg : mget S.l c.queue = none := by simpa using e2
    dsimp only
    rw [← tot_perm (sput_perm _ hg), tot_cons]
    have := len_tck (qNew c.a) S.now
    have e : (qNew c.a).l.length = 0 := rfl
    dsimp only
    omega
  cases hg : mget S.l c.queue with
  | none => exact same 6 (hap_no (by omega) hg)
  | some σ =>
    by_cases h2 : c.kind = 2
    · rw [hap_2 h2 hg]
      exact Nat.le_trans (tot_filter _ _) (Nat.le_add_right _ _)
    · rw [hap_of (by omega) hg]
      exact tot_upd hn hg (len_of σ c)
theorem grow_le (S : Sh) (c : Cm) : shGrow S c ≤ tot S.l + 10 := by
  unfold shGrow
  split
  · have := tot_tick c.n S.l; omega
  · exact Nat.le_add_left _ _
theorem apply_l (S : Sh) (c : Cm) : (shApply S c).1.l = S.l ∨ (shApply S c).1.l = (shHappen S c).1.l := by
  unfold shApply
  split
  · exact .inl rfl
  split
  · exact .inr rfl
  cases mget S.last c.client with
  | none =>
    dsimp only
    split
    · exact .inl rfl
    · exact .inr rfl
  | some d =>
    dsimp only
    split
    · exact .inl rfl
    split
    · exact .inl rfl
    · exact .inr rfl
theorem tot_apply {S : Sh} {T : Nat} (h : ShInv S T) (c : Cm) : tot (shApply S c).1.l ≤ tot S.l + 10 := by
  rcases apply_l S c with e | e
  · rw [e]; exact Nat.le_add_right _ _
  · rw [e]; exact tot_happen h c
/-- Behind k commands. -/
def Grown (S : Sh) (T k : Nat) : Prop := tot S.l ≤ 10 * k ∧ T ≤ 10 * (k * (k + 1))
theorem Grown.new : Grown shNew 0 0 := ⟨Nat.zero_le _, Nat.zero_le _⟩
theorem Grown.step {S : Sh} {T k : Nat} (h : Grown S T k) (hI : ShInv S T) (c : Cm) : Grown (shApply S c).1 (T + shGrow S c) (k + 1) := by
  obtain ⟨h1, h2⟩ := h
  have h3 := tot_apply hI c
  have h4 := grow_le S c
  refine ⟨by omega, ?_⟩
  have e : (k + 1) * (k + 1 + 1) = k * (k + 1) + 2 * k + 2 := by rw [Nat.mul_add, Nat.add_mul k 1 (k + 1), Nat.mul_one, Nat.one_mul]; omega
  rw [e]
  omega
theorem Grown.mono {S : Sh} {T k k' : Nat} (h : Grown S T k) (hk : k ≤ k') : Grown S T k' := by
  obtain ⟨h1, h2⟩ := h
  have h3 : k * (k + 1) ≤ k' * (k' + 1) := Nat.mul_le_mul hk (by omega)
  exact ⟨by omega, by omega⟩
theorem Grown.small {S : Sh} {T k : Nat} (h : Grown S T k) (hk : k ≤ 200) : T + 16394 ≤ 999998 := by
  have h2 := h.2
  have h3 : k * (k + 1) ≤ 200 * 201 := Nat.mul_le_mul hk (by omega)
  omega
section
variable {w0 w : World} {Ps : List Asn} {sb : Nat}
/-- A shop that is S, behind k commands at most; its rows are its own. -/
noncomputable def AShO (sb : Nat) (S : Sh) (k : Nat) : Asn := AEx (fun p : Nat × List Dv => AIf (Grown S p.1 k) (AStar [AShR sb S p.1 p.2, ARs p.2]))
theorem Hp.soOpen {S : Sh} {k : Nat} (h : Hp w0 w (AShO sb S k :: Ps)) : ∃ (T : Nat) (R : List Dv), Grown S T k ∧ Hp w0 w (AShR sb S T R :: ARs R :: Ps) := by
  obtain ⟨p, h⟩ := h.unex
  obtain ⟨h1, h⟩ := h.unif
  exact ⟨p.1, p.2, h1, h.unstar⟩
theorem Hp.soShut {S : Sh} {k T : Nat} {R : List Dv} (h : Hp w0 w (AShR sb S T R :: ARs R :: Ps)) (hg : Grown S T k) : Hp w0 w (AShO sb S k :: Ps) := Hp.ex (T, R) (Hp.if_ hg (Hp.star (Qs := [AShR sb S T R, ARs R]) h))
theorem Hp.soMono {S : Sh} {k k' : Nat} (h : Hp w0 w (AShO sb S k :: Ps)) (hk : k ≤ k') : Hp w0 w (AShO sb S k' :: Ps) := by
  obtain ⟨T, R, hg, h⟩ := h.soOpen
  exact h.soShut (hg.mono hk)
theorem Hp.soNew (h : Hp w0 w Ps) : Calls Tryz.prog 16 #[] w fun e w' => ∃ sb, e = .returned (.pointer (some ⟨sb, 0, none⟩)) ∧ Hp w0 w' (AShO sb shNew 0 :: Ps) := by
  refine Calls.mono h.shNewC ?_
  rintro e w' ⟨sb, rfl, hP⟩
  exact ⟨sb, rfl, hP.soShut Grown.new⟩
theorem Hp.soApply {S : Sh} {k : Nat} (h : Hp w0 w (AShO sb S k :: Ps)) (hk : k ≤ 200) (hrec : RecTab w0) (hE : ErrCell w0) (c : Cm) (B : Option Addr) (nl db : Nat) (hB : ∀ w1, Hp w0 w1 Ps → Kd.string.C w1 B nl c.bodies) (hok : CmOk c) :
    Calls Tryz.prog 17 #[.pointer (some ⟨sb, 0, none⟩), .agg (c.cells (.slice B nl db))] w fun e w' => AnsE e (shApply S c).2 w0 w' (AShO sb (shApply S c).1 (k + 1) :: Ps) := by
  obtain ⟨T, R, hg, h⟩ := h.soOpen
  obtain ⟨mb, lb, q, d, hI, _⟩ := h.srOpen
  refine Calls.mono (h.shApplyC ⟨hrec, hg.small hk⟩ hE c B nl db hB hok) ?_
  rintro e w' ⟨R', hR, A, n, cc, B', m, dd, he, hn, hm, hP⟩
  exact ⟨A, n, cc, B', m, dd, he, hn, hm, ((hP.perm (show List.Perm _ (_ :: _ :: AInt _ _ :: ATk _ _ :: Ps) by (repeat (first | (with_reducible exact List.Perm.refl _) | (with_reducible refine pb0 ?_) | (with_reducible refine pb1 ?_) | (with_reducible refine pb2 ?_) | (with_reducible refine pb3 ?_) | (with_reducible refine pb4 ?_) | (with_reducible refine pb5 ?_) | (with_reducible refine pb6 ?_) | (with_reducible refine pb7 ?_) | (with_reducible refine pb8 ?_) | (with_reducible refine pb9 ?_) | (with_reducible refine pb10 ?_) | (with_reducible refine pb11 ?_) | (with_reducible refine pb12 ?_) | (with_reducible refine pb13 ?_) | (with_reducible refine pb14 ?_) | (with_reducible refine pb15 ?_))))).soShut (hg.step hI c)).perm (by (repeat (first | (with_reducible exact List.Perm.refl _) | (with_reducible refine pb0 ?_) | (with_reducible refine pb1 ?_) | (with_reducible refine pb2 ?_) | (with_reducible refine pb3 ?_) | (with_reducible refine pb4 ?_) | (with_reducible refine pb5 ?_) | (with_reducible refine pb6 ?_) | (with_reducible refine pb7 ?_) | (with_reducible refine pb8 ?_) | (with_reducible refine pb9 ?_) | (with_reducible refine pb10 ?_) | (with_reducible refine pb11 ?_) | (with_reducible refine pb12 ?_) | (with_reducible refine pb13 ?_) | (with_reducible refine pb14 ?_) | (with_reducible refine pb15 ?_))))⟩
theorem Hp.soNow {S : Sh} {k : Nat} (h : Hp w0 w (AShO sb S k :: Ps)) : Calls Tryz.prog 24 #[.pointer (some ⟨sb, 0, none⟩)] w fun e w' => e = .returned (.int .i64 S.now) ∧ w = w' := by
  obtain ⟨T, R, hg, h⟩ := h.soOpen
  obtain ⟨mb, lb, q, d, hI, hF, hR, h⟩ := h.srOpen
  exact h.shNowC
end
end Go.Proofs.YtipdleiginnjmaaGreatDoor
set_option linter.unusedVariables false
namespace Go.Proofs.YtipdleiginnjmaaGreatDoor
open Go.RowKit Go.Proofs.YtipdleiginnjmaaGreatDoorW.PrintWords Go.Deep
def KQA := Kd.pair (Kd.int .i64) (Kd.pair (Kd.int .i64) (Kd.pair (Kd.int .i64) (Kd.pair (Kd.int .i64) (Kd.pair (Kd.int .i64) (Kd.pair Kd.string (Kd.bool))))))
def KCmd := Kd.pair (Kd.int .i64) (Kd.pair (Kd.int .i64) (Kd.pair (Kd.int .i64) (Kd.pair Kd.string (Kd.pair KQA (Kd.pair Kd.string (Kd.pair Kd.string (Kd.pair Kd.string (Kd.pair Kd.string (Kd.pair (Kd.slice 9 Kd.string) (Kd.pair (Kd.int .i64) ((Kd.int .i64))))))))))))
theorem opens_weak {α : Type} {P : Program} {t : TypeId} {d : Kd α} {ok ok' : α → Prop} (h : Opens P t d ok) (hi : ∀ x, ok x → ok' x) : Opens P t d ok' := ⟨h.cells, fun hx => by obtain ⟨a, h1, h2⟩ := h.get hx; exact ⟨a, h1, hi a h2⟩⟩
set_option maxRecDepth 100000 in
theorem opens_qa : Opens Tryz.prog 29 KQA (fun _ => True) :=
  opens_weak (opens_struct Tryz.underlying29 (by kernel_rfl) (Fields.cons (opens_int (k := .i64) Tryz.underlying3 (by kernel_rfl)) rfl (Fields.cons (opens_int (k := .i64) Tryz.underlying3 (by kernel_rfl)) rfl (Fields.cons (opens_int (k := .i64) Tryz.underlying3 (by kernel_rfl)) rfl (Fields.cons (opens_int (k := .i64) Tryz.underlying3 (by kernel_rfl)) rfl (Fields.cons (opens_int (k := .i64) Tryz.underlying3 (by kernel_rfl)) rfl (Fields.cons (opens_string Tryz.underlying9 (by kernel_rfl)) rfl (Fields.last (opens_bool Tryz.underlying4 (by kernel_rfl)) rfl) rfl) rfl) rfl) rfl) rfl) rfl)) (fun _ _ => trivial)
/-- A whole struct that lies somewhere in a row. -/
theorem run_loadVar_at {P : Program} (w : World) (ad : Addr) (ty : TypeId) (cs : Array Value) (d : TypeDesc) (hc : ∀ (j : Nat) v, cs.toList[j]? = some v → w.cell? (ad.add j) = some v)
    (hu : P.underlying ty = some d) (hd : (match d with | .struct _ | .array _ _ => true | _ => false) = true) (hi : (P.info? ty).map (·.size) = some cs.size) :
    (loadVar ty ad).run P w = .ok (.agg cs) w := by
  have hl : (loadCells ad cs.toList.length).run P w = .ok cs.toList.toArray w := run_loadCells_list (P := P) w ad cs.toList (fun j v hv => hc j v hv)
  cases hq : P.info? ty with
  | none => simp [hq] at hi
  | some i =>
    have hs : i.size = cs.size := by simpa [hq] using hi
    have hagg : (isAgg ty).run P w = .ok true w := by
      unfold isAgg
      rw [Sem.run_bind, run_underlying hu w]
      cases d <;> simp_all
    simp only [Array.length_toList, Array.toArray_toList] at hl
    simp [loadVar, Sem.run_bind, hagg, sizeOf, typeInfo, hq, hs, hl]
theorem wpList_load_at {P : Program} {ops : Array Oper} {rest : List Oper} {o : Oper} {a : Act} {w : World} {Q : Exit → Act → World → Prop} (hgd : o.guard = none) (ty : TypeId) (x : Operand) (ho : o.op = .load ty x)
    (ad : Addr) (hx : a.eval x = .pointer (some ad)) (cs : Array Value) (d : TypeDesc) (hc : ∀ (j : Nat) v, cs.toList[j]? = some v → w.cell? (ad.add j) = some v)
    (hu : P.underlying ty = some d) (hd : (match d with | .struct _ | .array _ _ => true | _ => false) = true) (hi : (P.info? ty).map (·.size) = some cs.size)
    (h : wpList P ops Q rest (a.put o.dst (.agg cs)) w) : wpList P ops Q (o :: rest) a w :=
  wpList_plain hgd fun _ hK => by
    unfold Oper.wp execOp
    simp only [ho, hx, Instr.loadAt, Instr.sureAddr, Sem.run_bind, Sem.run_pure, Result.andThen_ok, run_loadVar_at w ad ty cs d hc hu hd hi]
    exact hK _ _ h
abbrev CmT := Int × (Int × (Int × (ByteArray × ((Int × (Int × (Int × (Int × (Int × (ByteArray × Bool)))))) × (ByteArray × (ByteArray × (ByteArray × (ByteArray × (List ByteArray × (Int × Int))))))))))
def qaOf (x : Int × (Int × (Int × (Int × (Int × (ByteArray × Bool)))))) : QA := ⟨x.1, x.2.1, x.2.2.1, x.2.2.2.1, x.2.2.2.2.1, x.2.2.2.2.2.1, x.2.2.2.2.2.2⟩
def cmOf (x : CmT) : Cm := ⟨x.1, x.2.1, x.2.2.1, x.2.2.2.1, qaOf x.2.2.2.2.1, x.2.2.2.2.2.1, x.2.2.2.2.2.2.1, x.2.2.2.2.2.2.2.1, x.2.2.2.2.2.2.2.2.1, x.2.2.2.2.2.2.2.2.2.1, x.2.2.2.2.2.2.2.2.2.2.1, x.2.2.2.2.2.2.2.2.2.2.2⟩
theorem KQA_eq {w : World} {x} {c : List Value} (h : KQA.K w x c) : c = [.int .i64 (qaOf x).vis, .int .i64 (qaOf x).ret, .int .i64 (qaOf x).del, .int .i64 (qaOf x).win, .int .i64 (qaOf x).max, .string (qaOf x).dead, .bool (qaOf x).fifo] := by
  obtain ⟨c0, d0, rfl, h0, c1, d1, rfl, h1, c2, d2, rfl, h2, c3, d3, rfl, h3, c4, d4, rfl, h4, c5, d5, rfl, h5, h6⟩ := h
  have h0 : c0 = [.int .i64 x.1] := h0
  have h1 : c1 = [.int .i64 x.2.1] := h1
  have h2 : c2 = [.int .i64 x.2.2.1] := h2
  have h3 : c3 = [.int .i64 x.2.2.2.1] := h3
  have h4 : c4 = [.int .i64 x.2.2.2.2.1] := h4
  have h5 : c5 = [.string x.2.2.2.2.2.1] := h5
  have h6 : d5 = [.bool x.2.2.2.2.2.2] := h6
  subst h0 h1 h2 h3 h4 h5 h6
  rfl
theorem KCmd_eq {w : World} {x : CmT} {c : List Value} (h : KCmd.K w x c) : ∃ (A : Option Addr) (cb : Nat), c = ((cmOf x).cells (.slice A (cmOf x).bodies.length cb)).toList ∧ Kd.string.C w A (cmOf x).bodies.length (cmOf x).bodies ∧ (cmOf x).bodies.length ≤ cb := by
  obtain ⟨c0, d0, rfl, h0, c1, d1, rfl, h1, c2, d2, rfl, h2, c3, d3, rfl, h3, c4, d4, rfl, h4, c5, d5, rfl, h5, c6, d6, rfl, h6, c7, d7, rfl, h7, c8, d8, rfl, h8, c9, d9, rfl, h9, c10, d10, rfl, h10, h11⟩ := h
  have h0 : c0 = [.int .i64 x.1] := h0
  have h1 : c1 = [.int .i64 x.2.1] := h1
  have h2 : c2 = [.int .i64 x.2.2.1] := h2
  have h3 : c3 = [.string x.2.2.2.1] := h3
  have h4 := KQA_eq h4
  have h5 : c5 = [.string x.2.2.2.2.2.1] := h5
  have h6 : c6 = [.string x.2.2.2.2.2.2.1] := h6
  have h7 : c7 = [.string x.2.2.2.2.2.2.2.1] := h7
  have h8 : c8 = [.string x.2.2.2.2.2.2.2.2.1] := h8
  obtain ⟨A, cb, h9, hl, hC⟩ := h9
  have h10 : c10 = [.int .i64 x.2.2.2.2.2.2.2.2.2.2.1] := h10
  have h11 : d10 = [.int .i64 x.2.2.2.2.2.2.2.2.2.2.2] := h11
  subst h0 h1 h2 h3 h4 h5 h6 h7 h8 h9 h10 h11
  exact ⟨A, cb, rfl, hC, hl⟩
set_option maxRecDepth 100000 in
theorem opens_cmd : Opens Tryz.prog 32 KCmd (fun x => CmOk (cmOf x)) :=
  opens_weak (opens_struct Tryz.underlying32 (by kernel_rfl) (Fields.cons (opens_int (k := .i64) Tryz.underlying3 (by kernel_rfl)) rfl (Fields.cons (opens_int (k := .i64) Tryz.underlying3 (by kernel_rfl)) rfl (Fields.cons (opens_int (k := .i64) Tryz.underlying3 (by kernel_rfl)) rfl (Fields.cons (opens_string Tryz.underlying9 (by kernel_rfl)) rfl (Fields.cons opens_qa rfl (Fields.cons (opens_string Tryz.underlying9 (by kernel_rfl)) rfl (Fields.cons (opens_string Tryz.underlying9 (by kernel_rfl)) rfl (Fields.cons (opens_string Tryz.underlying9 (by kernel_rfl)) rfl (Fields.cons (opens_string Tryz.underlying9 (by kernel_rfl)) rfl (Fields.cons (opens_slice Tryz.underlying30 (by kernel_rfl) (opens_string Tryz.underlying9 (by kernel_rfl))) rfl (Fields.cons (opens_int (k := .i64) Tryz.underlying3 (by kernel_rfl)) rfl (Fields.last (opens_int (k := .i64) Tryz.underlying3 (by kernel_rfl)) rfl) rfl) rfl) rfl) rfl) rfl) rfl) rfl) rfl) rfl) rfl) rfl)) (fun x h => by
    obtain ⟨h0, h1, h2, h3, h4, h5, h6, h7, h8, h9⟩ := h
    exact ⟨h3, h6, h7, h0⟩)
theorem agg_of {cs : Array Value} {l : List Value} (h : (Value.agg cs).cells.toList = l) : cs = l.toArray := by
  rw [← h]
  simp [Value.cells]
/-- One command of a row. -/
theorem C_nth_cmd {w : World} {A : Option Addr} {n : Nat} {xs : List CmT} (h : KCmd.C w A n xs) (k : Nat) (hk : k < n) :
    ∃ ad x m B nb cb, A = some ad ∧ xs[k]? = some x ∧ cmOf x = m ∧ m.bodies.length = nb ∧ (∀ (j : Nat) v, (m.cells (.slice B nb cb)).toList[j]? = some v → w.cell? ((ad.add (k * 18)).add j) = some v) ∧ Kd.string.C w B nb m.bodies ∧ nb ≤ cb := by
  obtain ⟨ad, x, c, hA, hx, _, hK, h3⟩ := C_nth h k hk
  obtain ⟨B, cb, rfl, hC, hcb⟩ := KCmd_eq hK
  refine ⟨ad, x, cmOf x, B, _, cb, hA, hx, rfl, rfl, fun j v hv => ?_, hC, hcb⟩
  rw [Addr.add_add]
  exact h3 j v hv
/-- Two of them, one behind the other in a block. -/
theorem C_pair2 {α : Type} {d : Kd α} {w : World} {g t : Nat} {x y : α} {c1 c2 : List Value} (hx : d.K w x c1) (hy : d.K w y c2) (h : w.heap[g]? = some (.cells (c1 ++ c2).toArray t (0, 0))) : d.C w (some ⟨g, 0, none⟩) 2 [x, y] := by
  have l1 := d.K_len hx
  refine ⟨rfl, by omega, fun _ => ⟨_, rfl, fun j p hj => ?_⟩⟩
  match j, hj with
  | 0, hj =>
    obtain rfl := Option.some.inj hj
    refine ⟨c1, l1, hx, fun i u hu => ?_⟩
    rw [add_plain, blk_cell h]
    have hi := (List.getElem?_eq_some_iff.1 hu).1
    simp only [List.getElem?_toArray]
    rw [List.getElem?_append_left (by omega)]
    simpa using hu
  | 1, hj =>
    obtain rfl := Option.some.inj hj
    refine ⟨c2, d.K_len hy, hy, fun i u hu => ?_⟩
    rw [add_plain, blk_cell h]
    simp only [List.getElem?_toArray]
    rw [List.getElem?_append_right (by omega), l1]
    simpa using hu
  | j + 2, hj => simp at hj
end Go.Proofs.YtipdleiginnjmaaGreatDoor
set_option linter.unusedVariables false
set_option linter.unusedSimpArgs false
namespace Go.Proofs.YtipdleiginnjmaaGreatDoor
open Go.RowKit Go.Proofs.YtipdleiginnjmaaGreatDoorW.PrintWords
def FewEnd (e : Ending) (n : Nat) : Prop := ∃ b : Bool, e = .returned (.bool b) ∧ (b = true → n ≤ 60)
set_option maxHeartbeats 1600000 in
set_option maxRecDepth 100000 in
theorem few_any (A : Option Addr) (n c : Nat) (xs : List CmT) (w : World) (hC : KCmd.C w A n xs) :
    Calls Tryz.prog 14 #[.slice A n c] w fun e w' => FewEnd e n ∧ Below w.heap.size w w' := by
  have HC := Lib.hid hC
  have hmx := Kd.C_max hC
  clear hC
  go_enter Tryz.func14, Tryz.ntmps14
  go_wp2_with fail
  go_loopw [3, 4] (fun s i wr => ∃ (z : Int) (k : Nat), s = .int .i64 z ∧ i = .int .i64 k ∧ k ≤ n ∧ k ≤ 61 ∧ Hid (Below w.heap.size w wr)) (fun _ i _ => 61 - (intOf i).toNat)
  case atStart => exact ⟨0, 0, rfl, rfl, Nat.zero_le _, by omega, Lib.hid (Below.refl _ _)⟩
  case round =>
    obtain ⟨z, k, rfl, rfl, hk, hk61, HB⟩ := hrel
    by_cases hkn : k < n ∧ k ≤ 60
    case neg =>
      go_upto_region 3 with (fail)
      go_cut [14] (fun b wx => b = .bool false ∧ wx = wr)
      case first =>
        have hcase : ((k : Int) < (n : Int) ∧ ¬ (k : Int) ≤ 60) ∨ ¬ (k : Int) < (n : Int) := by omega
        rcases hcase with ⟨i1, i2⟩ | i1
        all_goals
          go_wp2_with fail
          go_meet
          case rel => exact ⟨rfl, rfl⟩
      case rest =>
      obtain ⟨rfl, rfl⟩ := hcut
      by_cases h60 : n ≤ 60
      case neg =>
        have i3 : ¬ (n : Int) ≤ 60 := by omega
        go_wp2_with fail
        go_ret
        exact ⟨⟨false, rfl, fun h => by cases h⟩, HB.out⟩
      case pos =>
        have i3 : (n : Int) ≤ 60 := by omega
        by_cases hz : z ≤ 6000
        all_goals
          go_wp2_with fail
          go_ret
          exact ⟨⟨_, rfl, fun _ => h60⟩, HB.out⟩
    case pos =>
      have i0 : (0 : Int) ≤ (k : Int) := by omega
      have i1 : (k : Int) < (n : Int) := by omega
      have i2 : (k : Int) ≤ 60 := by omega
      obtain ⟨ad, x, m, B, nb, cb, rfl, hx, hm, hnb, hcell, hD, _⟩ := C_nth_cmd (Kd.C_below HC.out HB.out) k hkn.1
      have HD := Lib.hid hD
      have HCELL := Lib.hid hcell
      unfold Cm.cells at HCELL
      have HPA := Lib.hid ((Hp.of HB.out).alloc (.cells #[.int .i64 0, .int .i64 0, .int .i64 0, .string ⟨#[]⟩, .int .i64 0, .int .i64 0, .int .i64 0, .int .i64 0, .int .i64 0, .string ⟨#[]⟩, .bool false, .string ⟨#[]⟩, .string ⟨#[]⟩, .string ⟨#[]⟩, .string ⟨#[]⟩, .slice none 0 0, .int .i64 0, .int .i64 0] 32))
      have HPS := Lib.hid (HPA.out.setRowBlkS #[.int .i64 m.client, .int .i64 m.req, .int .i64 m.kind, .string m.queue, .int .i64 m.a.vis, .int .i64 m.a.ret, .int .i64 m.a.del, .int .i64 m.a.win, .int .i64 m.a.max, .string m.a.dead, .bool m.a.fifo, .string m.body, .string m.group, .string m.key, .string m.receipt, .slice B nb cb, .int .i64 m.n, .int .i64 m.m])
      have HQS := Lib.hid (((Hp.nil wr).alloc (.cells #[.int .i64 0, .int .i64 0, .int .i64 0, .string ⟨#[]⟩, .int .i64 0, .int .i64 0, .int .i64 0, .int .i64 0, .int .i64 0, .string ⟨#[]⟩, .bool false, .string ⟨#[]⟩, .string ⟨#[]⟩, .string ⟨#[]⟩, .string ⟨#[]⟩, .slice none 0 0, .int .i64 0, .int .i64 0] 32)).setRowBlkS #[.int .i64 m.client, .int .i64 m.req, .int .i64 m.kind, .string m.queue, .int .i64 m.a.vis, .int .i64 m.a.ret, .int .i64 m.a.del, .int .i64 m.a.win, .int .i64 m.a.max, .string m.a.dead, .bool m.a.fifo, .string m.body, .string m.group, .string m.key, .string m.receipt, .slice B nb cb, .int .i64 m.n, .int .i64 m.m])
      have hmy := Kd.C_max hD
      clear hx hm hcell hD hnb
      go_wp2_with (first | ((with_reducible refine gate_dst (N := 20) rfl ?_); refine wpList_load_at rfl 32 (.tmp 19) rfl (ad.add (k * 18)) (by first | rfl | (go_simp; done) | (go_simp; rfl)) #[.int .i64 m.client, .int .i64 m.req, .int .i64 m.kind, .string m.queue, .int .i64 m.a.vis, .int .i64 m.a.ret, .int .i64 m.a.del, .int .i64 m.a.win, .int .i64 m.a.max, .string m.a.dead, .bool m.a.fifo, .string m.body, .string m.group, .string m.key, .string m.receipt, .slice B nb cb, .int .i64 m.n, .int .i64 m.m] _ HCELL.out Tryz.underlying32 rfl info_cmdS ?_) | ((with_reducible refine gate_store (t := 32) (p := 5) (v := .tmp 20) rfl ?_); refine wpList_store_row rfl 32 (.tmp 5) (.tmp 20) rfl wr.heap.size #[.int .i64 m.client, .int .i64 m.req, .int .i64 m.kind, .string m.queue, .int .i64 m.a.vis, .int .i64 m.a.ret, .int .i64 m.a.del, .int .i64 m.a.win, .int .i64 m.a.max, .string m.a.dead, .bool m.a.fifo, .string m.body, .string m.group, .string m.key, .string m.receipt, .slice B nb cb, .int .i64 m.n, .int .i64 m.m] rfl rfl 32 #[.int .i64 0, .int .i64 0, .int .i64 0, .string ⟨#[]⟩, .int .i64 0, .int .i64 0, .int .i64 0, .int .i64 0, .int .i64 0, .string ⟨#[]⟩, .bool false, .string ⟨#[]⟩, .string ⟨#[]⟩, .string ⟨#[]⟩, .string ⟨#[]⟩, .slice none 0 0, .int .i64 0, .int .i64 0] HPA.out.blk0 info_cmdS rfl (by simp [Value.oneCell']) ?_; generalize (wr.alloc (.cells #[.int .i64 0, .int .i64 0, .int .i64 0, .string ⟨#[]⟩, .int .i64 0, .int .i64 0, .int .i64 0, .int .i64 0, .int .i64 0, .string ⟨#[]⟩, .bool false, .string ⟨#[]⟩, .string ⟨#[]⟩, .string ⟨#[]⟩, .string ⟨#[]⟩, .slice none 0 0, .int .i64 0, .int .i64 0] 32)).setRow wr.heap.size #[.int .i64 m.client, .int .i64 m.req, .int .i64 m.kind, .string m.queue, .int .i64 m.a.vis, .int .i64 m.a.ret, .int .i64 m.a.del, .int .i64 m.a.win, .int .i64 m.a.max, .string m.a.dead, .bool m.a.fifo, .string m.body, .string m.group, .string m.key, .string m.receipt, .slice B nb cb, .int .i64 m.n, .int .i64 m.m] = W3 at *; have g3 : W3.cell? ⟨wr.heap.size, 3, none⟩ = some (.string m.queue) := blk_cell HPS.out.blk0 3; have g9 : W3.cell? ⟨wr.heap.size, 9, none⟩ = some (.string m.a.dead) := blk_cell HPS.out.blk0 9; have g11 : W3.cell? ⟨wr.heap.size, 11, none⟩ = some (.string m.body) := blk_cell HPS.out.blk0 11; have g12 : W3.cell? ⟨wr.heap.size, 12, none⟩ = some (.string m.group) := blk_cell HPS.out.blk0 12; have g13 : W3.cell? ⟨wr.heap.size, 13, none⟩ = some (.string m.key) := blk_cell HPS.out.blk0 13; have g14 : W3.cell? ⟨wr.heap.size, 14, none⟩ = some (.string m.receipt) := blk_cell HPS.out.blk0 14; have g15 : W3.cell? ⟨wr.heap.size, 15, none⟩ = some (.slice B nb cb) := blk_cell HPS.out.blk0 15))
      have HD3 := Lib.hid (Kd.C_below HD.out HQS.out.belowW)
      go_loopw [3, 6] (fun s i w2 => ∃ (z : Int) (j : Nat), s = .int .i64 z ∧ i = .int .i64 j ∧ j ≤ nb ∧ w2 = W3) (fun _ i _ => nb - (intOf i).toNat)
      case atStart => exact ⟨_, 0, rfl, rfl, Nat.zero_le _, rfl⟩
      case round =>
        obtain ⟨z2, j, rfl, rfl, hj, rfl⟩ := hrel
        by_cases hjn : j < nb
        case neg =>
          have j1 : ¬ (j : Int) < (nb : Int) := by omega
          go_wp2_with fail
          refine ⟨⟨_, k + 1, rfl, by simp, by omega, by omega, Lib.hid HPS.out.belowW⟩, ?_⟩
          simp [intOf]
          omega
        case pos =>
          obtain ⟨ae, y, rfl, hy, d0⟩ := C_nth_scalar HD3.out j hjn
          have j0 : (0 : Int) ≤ (j : Int) := by omega
          have j1 : (j : Int) < (nb : Int) := by omega
          clear hy
          by_cases h20 : (j : Int) ≤ 20
          case neg =>
            go_wp2_with fail
            refine ⟨⟨_, k + 1, rfl, by simp, by omega, by omega, Lib.hid HPS.out.belowW⟩, ?_⟩
            simp [intOf]
            omega
          case pos =>
            go_wp2_with fail
            refine ⟨⟨_, j + 1, rfl, by simp, by omega, by first | rfl | trivial⟩, ?_⟩
            simp [intOf]
            omega
end Go.Proofs.YtipdleiginnjmaaGreatDoor
