/- Put together: A command, an answer as arguments: what came in reads as plain data. · law09.Few of any commands: that it answers; if it says yes, they are 60 at most. -/
import Derived.Test.YtidjapjidihbpaaA5
import Derived.Test.YtidjapjidihbpaaA1
import Derived.Laws.Tables
set_option linter.unusedVariables false
set_option linter.unusedSimpArgs false
set_option linter.unusedVariables false
namespace Go.Proofs.Ytidjapjidihbpaa
open Go.RowKit Go.Proofs.YtidjapjidihbpaaW.PrintWords Go.Deep
def KQA := Kd.pair (Kd.int .i64) (Kd.pair (Kd.int .i64) (Kd.pair (Kd.int .i64) (Kd.pair (Kd.int .i64) (Kd.pair (Kd.int .i64) (Kd.pair Kd.string (Kd.bool))))))
def KCmd := Kd.pair (Kd.int .i64) (Kd.pair (Kd.int .i64) (Kd.pair (Kd.int .i64) (Kd.pair Kd.string (Kd.pair KQA (Kd.pair Kd.string (Kd.pair Kd.string (Kd.pair Kd.string (Kd.pair Kd.string (Kd.pair (Kd.slice 9 Kd.string) (Kd.pair (Kd.int .i64) ((Kd.int .i64))))))))))))
theorem opens_ok {α : Type} {P : Program} {t : TypeId} {d : Kd α} {ok : α → Prop} (h : Opens P t d ok) : Opens P t d (fun _ => True) := ⟨h.cells, fun hx => by obtain ⟨a, h1, _⟩ := h.get hx; exact ⟨a, h1, trivial⟩⟩
set_option maxRecDepth 100000 in
theorem opens_qa : Opens Try.prog 23 KQA (fun _ => True) :=
  opens_ok (opens_struct Try.underlying23 (by kernel_rfl) (Fields.cons (opens_int (k := .i64) Try.underlying3 (by kernel_rfl)) rfl (Fields.cons (opens_int (k := .i64) Try.underlying3 (by kernel_rfl)) rfl (Fields.cons (opens_int (k := .i64) Try.underlying3 (by kernel_rfl)) rfl (Fields.cons (opens_int (k := .i64) Try.underlying3 (by kernel_rfl)) rfl (Fields.cons (opens_int (k := .i64) Try.underlying3 (by kernel_rfl)) rfl (Fields.cons (opens_string Try.underlying9 (by kernel_rfl)) rfl (Fields.last (opens_bool Try.underlying4 (by kernel_rfl)) rfl) rfl) rfl) rfl) rfl) rfl) rfl))
set_option maxRecDepth 100000 in
theorem opens_cmd : Opens Try.prog 26 KCmd (fun _ => True) :=
  opens_ok (opens_struct Try.underlying26 (by kernel_rfl) (Fields.cons (opens_int (k := .i64) Try.underlying3 (by kernel_rfl)) rfl (Fields.cons (opens_int (k := .i64) Try.underlying3 (by kernel_rfl)) rfl (Fields.cons (opens_int (k := .i64) Try.underlying3 (by kernel_rfl)) rfl (Fields.cons (opens_string Try.underlying9 (by kernel_rfl)) rfl (Fields.cons opens_qa rfl (Fields.cons (opens_string Try.underlying9 (by kernel_rfl)) rfl (Fields.cons (opens_string Try.underlying9 (by kernel_rfl)) rfl (Fields.cons (opens_string Try.underlying9 (by kernel_rfl)) rfl (Fields.cons (opens_string Try.underlying9 (by kernel_rfl)) rfl (Fields.cons (opens_slice Try.underlying24 (by kernel_rfl) (opens_string Try.underlying9 (by kernel_rfl))) rfl (Fields.cons (opens_int (k := .i64) Try.underlying3 (by kernel_rfl)) rfl (Fields.last (opens_int (k := .i64) Try.underlying3 (by kernel_rfl)) rfl) rfl) rfl) rfl) rfl) rfl) rfl) rfl) rfl) rfl) rfl) rfl))
theorem agg_of {cs : Array Value} {l : List Value} (h : (Value.agg cs).cells.toList = l) : cs = l.toArray := by
  rw [← h]
  simp [Value.cells]
theorem KQA_inv {w : World} {x} {c : List Value} (h : KQA.K w x c) : ∃ a : QA, c = [.int .i64 a.vis, .int .i64 a.ret, .int .i64 a.del, .int .i64 a.win, .int .i64 a.max, .string a.dead, .bool a.fifo] := by
  obtain ⟨c0, d0, rfl, h0, c1, d1, rfl, h1, c2, d2, rfl, h2, c3, d3, rfl, h3, c4, d4, rfl, h4, c5, d5, rfl, h5, h6⟩ := h
  have h0 : c0 = [.int .i64 x.1] := h0
  have h1 : c1 = [.int .i64 x.2.1] := h1
  have h2 : c2 = [.int .i64 x.2.2.1] := h2
  have h3 : c3 = [.int .i64 x.2.2.2.1] := h3
  have h4 : c4 = [.int .i64 x.2.2.2.2.1] := h4
  have h5 : c5 = [.string x.2.2.2.2.2.1] := h5
  have h6 : d5 = [.bool x.2.2.2.2.2.2] := h6
  subst h0 h1 h2 h3 h4 h5 h6
  exact ⟨⟨x.1, x.2.1, x.2.2.1, x.2.2.2.1, x.2.2.2.2.1, x.2.2.2.2.2.1, x.2.2.2.2.2.2⟩, rfl⟩
theorem KCmd_inv {w : World} {x} {c : List Value} (h : KCmd.K w x c) : ∃ (m : Cm) (A : Option Addr) (nb cb : Nat), c = (m.cells (.slice A nb cb) m.n).toList ∧ Kd.string.C w A nb m.bodies := by
  obtain ⟨c0, d0, rfl, h0, c1, d1, rfl, h1, c2, d2, rfl, h2, c3, d3, rfl, h3, c4, d4, rfl, h4, c5, d5, rfl, h5, c6, d6, rfl, h6, c7, d7, rfl, h7, c8, d8, rfl, h8, c9, d9, rfl, h9, c10, d10, rfl, h10, h11⟩ := h
  have h0 : c0 = [.int .i64 x.1] := h0
  have h1 : c1 = [.int .i64 x.2.1] := h1
  have h2 : c2 = [.int .i64 x.2.2.1] := h2
  have h3 : c3 = [.string x.2.2.2.1] := h3
  obtain ⟨a, h4⟩ := KQA_inv h4
  have h5 : c5 = [.string x.2.2.2.2.2.1] := h5
  have h6 : c6 = [.string x.2.2.2.2.2.2.1] := h6
  have h7 : c7 = [.string x.2.2.2.2.2.2.2.1] := h7
  have h8 : c8 = [.string x.2.2.2.2.2.2.2.2.1] := h8
  obtain ⟨A, cb, h9, _, hC⟩ := h9
  have h10 : c10 = [.int .i64 x.2.2.2.2.2.2.2.2.2.2.1] := h10
  have h11 : d10 = [.int .i64 x.2.2.2.2.2.2.2.2.2.2.2] := h11
  subst h0 h1 h2 h3 h4 h5 h6 h7 h8 h9 h10 h11
  exact ⟨⟨x.1, x.2.1, x.2.2.1, x.2.2.2.1, a, x.2.2.2.2.2.1, x.2.2.2.2.2.2.1, x.2.2.2.2.2.2.2.1, x.2.2.2.2.2.2.2.2.1, x.2.2.2.2.2.2.2.2.2.1, x.2.2.2.2.2.2.2.2.2.2.1, x.2.2.2.2.2.2.2.2.2.2.2⟩, A, _, cb, rfl, hC⟩
/-- A command handed over. -/
theorem arg_cmd {H : Type} {enc : TypeId × Value → H} {w : World} {held : Bool} {cs : Array Value} {y : DataW H} {ps : List MemPlace} (h : DataW.Trod enc Try.prog w 0 (fun _ => true) held 26 (.agg cs) y ps) :
    ∃ (m : Cm) (A : Option Addr) (nb cb : Nat), cs = m.cells (.slice A nb cb) m.n ∧ Kd.string.C w A nb m.bodies := by
  obtain ⟨fuel, hf⟩ := h
  obtain ⟨x, hK, _⟩ := opens_cmd.get hf
  obtain ⟨m, A, nb, cb, h1, h2⟩ := KCmd_inv hK
  exact ⟨m, A, nb, cb, (agg_of h1).trans (by simp), h2⟩
end Go.Proofs.Ytidjapjidihbpaa
set_option linter.unusedVariables false
set_option linter.unusedSimpArgs false
namespace Go.Proofs.Ytidjapjidihbpaa
open Go.RowKit Go.Proofs.YtidjapjidihbpaaW.PrintWords
/-- A whole struct that lies somewhere in a row. -/
theorem run_loadVar_at {P : Program} (w : World) (ad : Addr) (ty : TypeId) (cs : Array Value) (d : TypeDesc) (hc : ∀ (j : Nat) v, cs.toList[j]? = some v → w.cell? (ad.add j) = some v)
    (hu : P.underlying ty = some d) (hd : (match d with | .struct _ | .array _ _ => true | _ => false) = true) (hi : (P.info? ty).map (·.size) = some cs.size) :
    (loadVar ty ad).run P w = .ok (.agg cs) w := by
  have hl : (loadCells ad cs.toList.length).run P w = .ok cs.toList.toArray w := run_loadCells_list (P := P) w ad cs.toList (fun j v hv => hc j v hv)
  cases hq : P.info? ty with
  | none => simp [hq] at hi
  | some i =>
    have hs : i.size = cs.size := by simpa [hq] using hi
    have hagg : (isAgg ty).run P w = .ok true w := by
      unfold isAgg
      rw [Sem.run_bind, run_underlying hu w]
      cases d <;> simp_all
    simp only [Array.length_toList, Array.toArray_toList] at hl
    simp [loadVar, Sem.run_bind, hagg, sizeOf, typeInfo, hq, hs, hl]
theorem wpList_load_at {P : Program} {ops : Array Oper} {rest : List Oper} {o : Oper} {a : Act} {w : World} {Q : Exit → Act → World → Prop} (hgd : o.guard = none) (ty : TypeId) (x : Operand) (ho : o.op = .load ty x)
    (ad : Addr) (hx : a.eval x = .pointer (some ad)) (cs : Array Value) (d : TypeDesc) (hc : ∀ (j : Nat) v, cs.toList[j]? = some v → w.cell? (ad.add j) = some v)
    (hu : P.underlying ty = some d) (hd : (match d with | .struct _ | .array _ _ => true | _ => false) = true) (hi : (P.info? ty).map (·.size) = some cs.size)
    (h : wpList P ops Q rest (a.put o.dst (.agg cs)) w) : wpList P ops Q (o :: rest) a w :=
  wpList_plain hgd fun _ hK => by
    unfold Oper.wp execOp
    simp only [ho, hx, Instr.loadAt, Instr.sureAddr, Sem.run_bind, Sem.run_pure, Result.andThen_ok, run_loadVar_at w ad ty cs d hc hu hd hi]
    exact hK _ _ h
abbrev CmT := Int × (Int × (Int × (ByteArray × ((Int × (Int × (Int × (Int × (Int × (ByteArray × Bool)))))) × (ByteArray × (ByteArray × (ByteArray × (ByteArray × (List ByteArray × (Int × Int))))))))))
def qaOf (x : Int × (Int × (Int × (Int × (Int × (ByteArray × Bool)))))) : QA := ⟨x.1, x.2.1, x.2.2.1, x.2.2.2.1, x.2.2.2.2.1, x.2.2.2.2.2.1, x.2.2.2.2.2.2⟩
def cmOf (x : CmT) : Cm := ⟨x.1, x.2.1, x.2.2.1, x.2.2.2.1, qaOf x.2.2.2.2.1, x.2.2.2.2.2.1, x.2.2.2.2.2.2.1, x.2.2.2.2.2.2.2.1, x.2.2.2.2.2.2.2.2.1, x.2.2.2.2.2.2.2.2.2.1, x.2.2.2.2.2.2.2.2.2.2.1, x.2.2.2.2.2.2.2.2.2.2.2⟩
theorem KQA_eq {w : World} {x} {c : List Value} (h : KQA.K w x c) : c = [.int .i64 (qaOf x).vis, .int .i64 (qaOf x).ret, .int .i64 (qaOf x).del, .int .i64 (qaOf x).win, .int .i64 (qaOf x).max, .string (qaOf x).dead, .bool (qaOf x).fifo] := by
  obtain ⟨c0, d0, rfl, h0, c1, d1, rfl, h1, c2, d2, rfl, h2, c3, d3, rfl, h3, c4, d4, rfl, h4, c5, d5, rfl, h5, h6⟩ := h
  have h0 : c0 = [.int .i64 x.1] := h0
  have h1 : c1 = [.int .i64 x.2.1] := h1
  have h2 : c2 = [.int .i64 x.2.2.1] := h2
  have h3 : c3 = [.int .i64 x.2.2.2.1] := h3
  have h4 : c4 = [.int .i64 x.2.2.2.2.1] := h4
  have h5 : c5 = [.string x.2.2.2.2.2.1] := h5
  have h6 : d5 = [.bool x.2.2.2.2.2.2] := h6
  subst h0 h1 h2 h3 h4 h5 h6
  rfl
theorem KCmd_eq {w : World} {x : CmT} {c : List Value} (h : KCmd.K w x c) : ∃ (A : Option Addr) (cb : Nat), c = ((cmOf x).cells (.slice A (cmOf x).bodies.length cb) (cmOf x).n).toList ∧ Kd.string.C w A (cmOf x).bodies.length (cmOf x).bodies ∧ (cmOf x).bodies.length ≤ cb := by
  obtain ⟨c0, d0, rfl, h0, c1, d1, rfl, h1, c2, d2, rfl, h2, c3, d3, rfl, h3, c4, d4, rfl, h4, c5, d5, rfl, h5, c6, d6, rfl, h6, c7, d7, rfl, h7, c8, d8, rfl, h8, c9, d9, rfl, h9, c10, d10, rfl, h10, h11⟩ := h
  have h0 : c0 = [.int .i64 x.1] := h0
  have h1 : c1 = [.int .i64 x.2.1] := h1
  have h2 : c2 = [.int .i64 x.2.2.1] := h2
  have h3 : c3 = [.string x.2.2.2.1] := h3
  have h4 := KQA_eq h4
  have h5 : c5 = [.string x.2.2.2.2.2.1] := h5
  have h6 : c6 = [.string x.2.2.2.2.2.2.1] := h6
  have h7 : c7 = [.string x.2.2.2.2.2.2.2.1] := h7
  have h8 : c8 = [.string x.2.2.2.2.2.2.2.2.1] := h8
  obtain ⟨A, cb, h9, hl, hC⟩ := h9
  have h10 : c10 = [.int .i64 x.2.2.2.2.2.2.2.2.2.2.1] := h10
  have h11 : d10 = [.int .i64 x.2.2.2.2.2.2.2.2.2.2.2] := h11
  subst h0 h1 h2 h3 h4 h5 h6 h7 h8 h9 h10 h11
  exact ⟨A, cb, rfl, hC, hl⟩
/-- One command of a row. -/
theorem C_nth_cmd {w : World} {A : Option Addr} {n : Nat} {xs : List CmT} (h : KCmd.C w A n xs) (k : Nat) (hk : k < n) :
    ∃ ad x m B nb cb, A = some ad ∧ xs[k]? = some x ∧ cmOf x = m ∧ m.bodies.length = nb ∧ (∀ (j : Nat) v, (m.cells (.slice B nb cb) m.n).toList[j]? = some v → w.cell? ((ad.add (k * 18)).add j) = some v) ∧ Kd.string.C w B nb m.bodies ∧ nb ≤ cb := by
  obtain ⟨ad, x, c, hA, hx, _, hK, h3⟩ := C_nth h k hk
  obtain ⟨B, cb, rfl, hC, hcb⟩ := KCmd_eq hK
  refine ⟨ad, x, cmOf x, B, _, cb, hA, hx, rfl, rfl, fun j v hv => ?_, hC, hcb⟩
  rw [Addr.add_add]
  exact h3 j v hv
/-- Two of them, one behind the other in a block. -/
theorem C_pair2 {α : Type} {d : Kd α} {w : World} {g t : Nat} {x y : α} {c1 c2 : List Value} (hx : d.K w x c1) (hy : d.K w y c2) (h : w.heap[g]? = some (.cells (c1 ++ c2).toArray t (0, 0))) : d.C w (some ⟨g, 0, none⟩) 2 [x, y] := by
  have l1 := d.K_len hx
  refine ⟨rfl, by omega, fun _ => ⟨_, rfl, fun j p hj => ?_⟩⟩
  match j, hj with
  | 0, hj =>
    obtain rfl := Option.some.inj hj
    refine ⟨c1, l1, hx, fun i u hu => ?_⟩
    rw [add_plain, blk_cell h]
    have hi := (List.getElem?_eq_some_iff.1 hu).1
    simp only [List.getElem?_toArray]
    rw [List.getElem?_append_left (by omega)]
    simpa using hu
  | 1, hj =>
    obtain rfl := Option.some.inj hj
    refine ⟨c2, d.K_len hy, hy, fun i u hu => ?_⟩
    rw [add_plain, blk_cell h]
    simp only [List.getElem?_toArray]
    rw [List.getElem?_append_right (by omega), l1]
    simpa using hu
  | j + 2, hj => simp at hj
def FewEnd (e : Ending) (n : Nat) : Prop := ∃ b : Bool, e = .returned (.bool b) ∧ (b = true → n ≤ 60)
set_option maxHeartbeats 1600000 in
set_option maxRecDepth 100000 in
theorem few_any (A : Option Addr) (n c : Nat) (xs : List CmT) (w : World) (hC : KCmd.C w A n xs) :
    Calls Try.prog 4 #[.slice A n c] w fun e w' => FewEnd e n ∧ Below w.heap.size w w' := by
  have HC := Lib.hid hC
  have hmx := Kd.C_max hC
  clear hC
  go_enter Try.func4, Try.ntmps4
  go_wp2_with fail
  go_loopw [3, 4] (fun s i wr => ∃ (z : Int) (k : Nat), s = .int .i64 z ∧ i = .int .i64 k ∧ k ≤ n ∧ k ≤ 61 ∧ Hid (Below w.heap.size w wr)) (fun _ i _ => 61 - (intOf i).toNat)
  case atStart => exact ⟨0, 0, rfl, rfl, Nat.zero_le _, by omega, Lib.hid (Below.refl _ _)⟩
  case round =>
    obtain ⟨z, k, rfl, rfl, hk, hk61, HB⟩ := hrel
    by_cases hkn : k < n ∧ k ≤ 60
    case neg =>
      go_upto_region 3 with (fail)
      go_cut [14] (fun b wx => b = .bool false ∧ wx = wr)
      case first =>
        have hcase : ((k : Int) < (n : Int) ∧ ¬ (k : Int) ≤ 60) ∨ ¬ (k : Int) < (n : Int) := by omega
        rcases hcase with ⟨i1, i2⟩ | i1
        all_goals
          go_wp2_with fail
          go_meet
          case rel => exact ⟨rfl, rfl⟩
      case rest =>
      obtain ⟨rfl, rfl⟩ := hcut
      by_cases h60 : n ≤ 60
      case neg =>
        have i3 : ¬ (n : Int) ≤ 60 := by omega
        go_wp2_with fail
        go_ret
        exact ⟨⟨false, rfl, fun h => by cases h⟩, HB.out⟩
      case pos =>
        have i3 : (n : Int) ≤ 60 := by omega
        by_cases hz : z ≤ 6000
        all_goals
          go_wp2_with fail
          go_ret
          exact ⟨⟨_, rfl, fun _ => h60⟩, HB.out⟩
    case pos =>
      have i0 : (0 : Int) ≤ (k : Int) := by omega
      have i1 : (k : Int) < (n : Int) := by omega
      have i2 : (k : Int) ≤ 60 := by omega
      obtain ⟨ad, x, m, B, nb, cb, rfl, hx, hm, hnb, hcell, hD, _⟩ := C_nth_cmd (Kd.C_below HC.out HB.out) k hkn.1
      have HD := Lib.hid hD
      have HCELL := Lib.hid hcell
      unfold Cm.cells at HCELL
      have HPA := Lib.hid ((Hp.of HB.out).alloc (.cells #[.int .i64 0, .int .i64 0, .int .i64 0, .string ⟨#[]⟩, .int .i64 0, .int .i64 0, .int .i64 0, .int .i64 0, .int .i64 0, .string ⟨#[]⟩, .bool false, .string ⟨#[]⟩, .string ⟨#[]⟩, .string ⟨#[]⟩, .string ⟨#[]⟩, .slice none 0 0, .int .i64 0, .int .i64 0] 26))
      have HPS := Lib.hid (HPA.out.setRowBlk #[.int .i64 m.client, .int .i64 m.req, .int .i64 m.kind, .string m.queue, .int .i64 m.a.vis, .int .i64 m.a.ret, .int .i64 m.a.del, .int .i64 m.a.win, .int .i64 m.a.max, .string m.a.dead, .bool m.a.fifo, .string m.body, .string m.group, .string m.key, .string m.receipt, .slice B nb cb, .int .i64 m.n, .int .i64 m.m])
      have HQS := Lib.hid (((Hp.nil wr).alloc (.cells #[.int .i64 0, .int .i64 0, .int .i64 0, .string ⟨#[]⟩, .int .i64 0, .int .i64 0, .int .i64 0, .int .i64 0, .int .i64 0, .string ⟨#[]⟩, .bool false, .string ⟨#[]⟩, .string ⟨#[]⟩, .string ⟨#[]⟩, .string ⟨#[]⟩, .slice none 0 0, .int .i64 0, .int .i64 0] 26)).setRowBlk #[.int .i64 m.client, .int .i64 m.req, .int .i64 m.kind, .string m.queue, .int .i64 m.a.vis, .int .i64 m.a.ret, .int .i64 m.a.del, .int .i64 m.a.win, .int .i64 m.a.max, .string m.a.dead, .bool m.a.fifo, .string m.body, .string m.group, .string m.key, .string m.receipt, .slice B nb cb, .int .i64 m.n, .int .i64 m.m])
      have hmy := Kd.C_max hD
      clear hx hm hcell hD hnb
      go_wp2_with (first | ((with_reducible refine gate_dst (N := 20) rfl ?_); refine wpList_load_at rfl 26 (.tmp 19) rfl (ad.add (k * 18)) (by first | rfl | (go_simp; done) | (go_simp; rfl)) #[.int .i64 m.client, .int .i64 m.req, .int .i64 m.kind, .string m.queue, .int .i64 m.a.vis, .int .i64 m.a.ret, .int .i64 m.a.del, .int .i64 m.a.win, .int .i64 m.a.max, .string m.a.dead, .bool m.a.fifo, .string m.body, .string m.group, .string m.key, .string m.receipt, .slice B nb cb, .int .i64 m.n, .int .i64 m.m] _ HCELL.out Try.underlying26 rfl info_cmd ?_) | ((with_reducible refine gate_store (t := 26) (p := 5) (v := .tmp 20) rfl ?_); refine wpList_store_row rfl 26 (.tmp 5) (.tmp 20) rfl wr.heap.size #[.int .i64 m.client, .int .i64 m.req, .int .i64 m.kind, .string m.queue, .int .i64 m.a.vis, .int .i64 m.a.ret, .int .i64 m.a.del, .int .i64 m.a.win, .int .i64 m.a.max, .string m.a.dead, .bool m.a.fifo, .string m.body, .string m.group, .string m.key, .string m.receipt, .slice B nb cb, .int .i64 m.n, .int .i64 m.m] rfl rfl 26 #[.int .i64 0, .int .i64 0, .int .i64 0, .string ⟨#[]⟩, .int .i64 0, .int .i64 0, .int .i64 0, .int .i64 0, .int .i64 0, .string ⟨#[]⟩, .bool false, .string ⟨#[]⟩, .string ⟨#[]⟩, .string ⟨#[]⟩, .string ⟨#[]⟩, .slice none 0 0, .int .i64 0, .int .i64 0] HPA.out.blk0 info_cmd rfl (by simp [Value.oneCell']) ?_; generalize (wr.alloc (.cells #[.int .i64 0, .int .i64 0, .int .i64 0, .string ⟨#[]⟩, .int .i64 0, .int .i64 0, .int .i64 0, .int .i64 0, .int .i64 0, .string ⟨#[]⟩, .bool false, .string ⟨#[]⟩, .string ⟨#[]⟩, .string ⟨#[]⟩, .string ⟨#[]⟩, .slice none 0 0, .int .i64 0, .int .i64 0] 26)).setRow wr.heap.size #[.int .i64 m.client, .int .i64 m.req, .int .i64 m.kind, .string m.queue, .int .i64 m.a.vis, .int .i64 m.a.ret, .int .i64 m.a.del, .int .i64 m.a.win, .int .i64 m.a.max, .string m.a.dead, .bool m.a.fifo, .string m.body, .string m.group, .string m.key, .string m.receipt, .slice B nb cb, .int .i64 m.n, .int .i64 m.m] = W3 at *; have g3 : W3.cell? ⟨wr.heap.size, 3, none⟩ = some (.string m.queue) := blk_cell HPS.out.blk0 3; have g9 : W3.cell? ⟨wr.heap.size, 9, none⟩ = some (.string m.a.dead) := blk_cell HPS.out.blk0 9; have g11 : W3.cell? ⟨wr.heap.size, 11, none⟩ = some (.string m.body) := blk_cell HPS.out.blk0 11; have g12 : W3.cell? ⟨wr.heap.size, 12, none⟩ = some (.string m.group) := blk_cell HPS.out.blk0 12; have g13 : W3.cell? ⟨wr.heap.size, 13, none⟩ = some (.string m.key) := blk_cell HPS.out.blk0 13; have g14 : W3.cell? ⟨wr.heap.size, 14, none⟩ = some (.string m.receipt) := blk_cell HPS.out.blk0 14; have g15 : W3.cell? ⟨wr.heap.size, 15, none⟩ = some (.slice B nb cb) := blk_cell HPS.out.blk0 15))
      have HD3 := Lib.hid (Kd.C_below HD.out HQS.out.belowW)
      go_loopw [3, 6] (fun s i w2 => ∃ (z : Int) (j : Nat), s = .int .i64 z ∧ i = .int .i64 j ∧ j ≤ nb ∧ w2 = W3) (fun _ i _ => nb - (intOf i).toNat)
      case atStart => exact ⟨_, 0, rfl, rfl, Nat.zero_le _, rfl⟩
      case round =>
        obtain ⟨z2, j, rfl, rfl, hj, rfl⟩ := hrel
        by_cases hjn : j < nb
        case neg =>
          have j1 : ¬ (j : Int) < (nb : Int) := by omega
          go_wp2_with fail
          refine ⟨⟨_, k + 1, rfl, by simp, by omega, by omega, Lib.hid HPS.out.belowW⟩, ?_⟩
          simp [intOf]
          omega
        case pos =>
          obtain ⟨ae, y, rfl, hy, d0⟩ := C_nth_scalar HD3.out j hjn
          have j0 : (0 : Int) ≤ (j : Int) := by omega
          have j1 : (j : Int) < (nb : Int) := by omega
          clear hy
          by_cases h20 : (j : Int) ≤ 20
          case neg =>
            go_wp2_with fail
            refine ⟨⟨_, k + 1, rfl, by simp, by omega, by omega, Lib.hid HPS.out.belowW⟩, ?_⟩
            simp [intOf]
            omega
          case pos =>
            go_wp2_with fail
            refine ⟨⟨_, j + 1, rfl, by simp, by omega, by first | rfl | trivial⟩, ?_⟩
            simp [intOf]
            omega
end Go.Proofs.Ytidjapjidihbpaa
