/- Put together: law10.SameCmd of any two commands. -/
import Derived.Test.YtidjapjidihbpaaA8
import Derived.Test.YtidjapjidihbpaaWEqStruct
set_option linter.unusedVariables false
set_option linter.unusedSimpArgs false
set_option linter.unusedVariables false
set_option linter.unusedSimpArgs false
namespace Go.Proofs.Ytidjapjidihbpaa
open Go.RowKit Go.Proofs.YtidjapjidihbpaaW.PrintWords
theorem strBeq (a b : ByteArray) : (a.toList == b.toList) = decide (a = b) := by
  by_cases h : a = b
  · subst h; simp
  · rw [decide_eq_false h, beq_eq_false_iff_ne, Go.ByteArray.toList_eq, Go.ByteArray.toList_eq]
    exact fun e => h (ByteArray.ext (Array.toList_inj.1 e))
theorem intBeq (a b : Int) : (a == b) = decide (a = b) := rfl
theorem boolBeq (a b : Bool) : (a == b) = decide (a = b) := by cases a <;> cases b <;> rfl
def qaB (x y : QA) : Bool := (x.vis == y.vis) && ((x.ret == y.ret) && ((x.del == y.del) && ((x.win == y.win) && ((x.max == y.max) && ((x.dead.toList == y.dead.toList) && (x.fifo == y.fifo))))))
instance : DecidableEq QA := fun x y => if h : (x.vis = y.vis ∧ x.ret = y.ret ∧ x.del = y.del ∧ x.win = y.win ∧ x.max = y.max ∧ x.dead = y.dead ∧ x.fifo = y.fifo) then .isTrue (by cases x; cases y; obtain ⟨h1, h2, h3, h4, h5, h6, h7⟩ := h; cases h1; cases h2; cases h3; cases h4; cases h5; cases h6; cases h7; rfl) else .isFalse (fun e => h (by subst e; exact ⟨rfl, rfl, rfl, rfl, rfl, rfl, rfl⟩))
theorem qaB_eq (x y : QA) : qaB x y = decide (x = y) := by
  unfold qaB
  rw [strBeq, intBeq, intBeq, intBeq, intBeq, intBeq, boolBeq]
  by_cases h : x = y
  · subst h; simp
  · rw [decide_eq_false h]
    cases x; cases y
    simp only [QA.mk.injEq] at h
    simp only [← Bool.decide_and]
    exact decide_eq_false h
theorem eqlQA (x y : QA) (W : World) : (Go.binOp .eql 37 (.agg #[.int .i64 x.vis, .int .i64 x.ret, .int .i64 x.del, .int .i64 x.win, .int .i64 x.max, .string x.dead, .bool x.fifo]) (.agg #[.int .i64 y.vis, .int .i64 y.ret, .int .i64 y.del, .int .i64 y.win, .int .i64 y.max, .string y.dead, .bool y.fifo])).run Try.prog W = .ok (.bool (qaB x y)) W := by
  have h := eqA_of (P := Try.prog) (d := 9999) (w := W) Try.underlying37 (by kernel_rfl) (r := qaB x y)
    (xs := #[.int .i64 x.vis, .int .i64 x.ret, .int .i64 x.del, .int .i64 x.win, .int .i64 x.max, .string x.dead, .bool x.fifo]) (ys := #[.int .i64 y.vis, .int .i64 y.ret, .int .i64 y.del, .int .i64 y.win, .int .i64 y.max, .string y.dead, .bool y.fifo])
    (eqf_cons (by rfl) (a := .int .i64 _) (b := .int .i64 _) (by go_simp) (by go_simp) (run_equalIn_int _ _ _ .i64 .i64 _ _ (by kernel_rfl))
     (eqf_cons (by rfl) (a := .int .i64 _) (b := .int .i64 _) (by go_simp) (by go_simp) (run_equalIn_int _ _ _ .i64 .i64 _ _ (by kernel_rfl))
     (eqf_cons (by rfl) (a := .int .i64 _) (b := .int .i64 _) (by go_simp) (by go_simp) (run_equalIn_int _ _ _ .i64 .i64 _ _ (by kernel_rfl))
     (eqf_cons (by rfl) (a := .int .i64 _) (b := .int .i64 _) (by go_simp) (by go_simp) (run_equalIn_int _ _ _ .i64 .i64 _ _ (by kernel_rfl))
     (eqf_cons (by rfl) (a := .int .i64 _) (b := .int .i64 _) (by go_simp) (by go_simp) (run_equalIn_int _ _ _ .i64 .i64 _ _ (by kernel_rfl))
     (eqf_cons (by rfl) (by go_simp) (by go_simp) (run_equalIn_string _ _ _ _ _ (by kernel_rfl))
     (eqf_last (by rfl) (by go_simp) (by go_simp) (run_equalIn_bool' _ _ _ _ _ (by kernel_rfl)))))))))
  rw [run_eql_struct, h, Result.andThen_ok]
def SameEnd (e : Ending) (p : Prop) : Prop := ∃ b : Bool, e = .returned (.bool b) ∧ (b = true ↔ p)
def SameB (v : Value) (p : Prop) : Prop := ∃ b : Bool, v = .bool b ∧ (b = true ↔ p)
theorem Cm.same {c d : Cm} (h9 : c.client = d.client ∧ c.req = d.req ∧ c.kind = d.kind ∧ c.n = d.n ∧ c.m = d.m ∧ c.a = d.a) (h10 : c.queue = d.queue ∧ c.body = d.body ∧ c.group = d.group ∧ c.key = d.key ∧ c.receipt = d.receipt) (hb : c.bodies = d.bodies) : c = d := by
  cases c; cases d
  simp only at h9 h10 hb
  obtain ⟨h0, h1, h2, h3, h4, h5⟩ := h9
  obtain ⟨g0, g1, g2, g3, g4⟩ := h10
  cases h0; cases h1; cases h2; cases h3; cases h4; cases h5; cases g0; cases g1; cases g2; cases g3; cases g4; cases hb
  rfl
set_option maxHeartbeats 6400000 in
set_option maxRecDepth 100000 in
theorem sameCmd_any (c d : Cm) (A : Option Addr) (na ca : Nat) (B : Option Addr) (nb db : Nat) (w : World) (hC : Kd.string.C w A na c.bodies) (hD : Kd.string.C w B nb d.bodies) :
    Calls Try.prog 8 #[.agg (c.cells (.slice A na ca) c.n), .agg (d.cells (.slice B nb db) d.n)] w fun e w' => SameEnd e (c = d) ∧ Below w.heap.size w w' := by
  have HC := Lib.hid hC
  have HD := Lib.hid hD
  have HNA := Lib.hid (Kd.C_len hC)
  have HNB := Lib.hid (Kd.C_len hD)
  have hmx := Kd.C_max hC
  have hmy := Kd.C_max hD
  clear hC hD
  have hp0 := ((Hp.nil w).alloc (.cells (c.cells (.slice A na ca) c.n) 39)).alloc (.cells (d.cells (.slice B nb db) d.n) 39)
  have hz : (w.alloc (.cells (c.cells (.slice A na ca) c.n) 39)).heap.size = w.heap.size + 1 := by simp
  rw [hz] at hp0
  unfold Cm.cells at hp0 ⊢
  have HP0 := Lib.hid hp0
  clear hz hp0
  have a0 : ((w.alloc (.cells #[.int .i64 c.client, .int .i64 c.req, .int .i64 c.kind, .string c.queue, .int .i64 c.a.vis, .int .i64 c.a.ret, .int .i64 c.a.del, .int .i64 c.a.win, .int .i64 c.a.max, .string c.a.dead, .bool c.a.fifo, .string c.body, .string c.group, .string c.key, .string c.receipt, .slice A na ca, .int .i64 c.n, .int .i64 c.m] 39)).alloc (.cells #[.int .i64 d.client, .int .i64 d.req, .int .i64 d.kind, .string d.queue, .int .i64 d.a.vis, .int .i64 d.a.ret, .int .i64 d.a.del, .int .i64 d.a.win, .int .i64 d.a.max, .string d.a.dead, .bool d.a.fifo, .string d.body, .string d.group, .string d.key, .string d.receipt, .slice B nb db, .int .i64 d.n, .int .i64 d.m] 39)).cell? ⟨w.heap.size, 0, none⟩ = some (.int .i64 c.client) := blk_cell HP0.out.blk1 0
  have b0 : ((w.alloc (.cells #[.int .i64 c.client, .int .i64 c.req, .int .i64 c.kind, .string c.queue, .int .i64 c.a.vis, .int .i64 c.a.ret, .int .i64 c.a.del, .int .i64 c.a.win, .int .i64 c.a.max, .string c.a.dead, .bool c.a.fifo, .string c.body, .string c.group, .string c.key, .string c.receipt, .slice A na ca, .int .i64 c.n, .int .i64 c.m] 39)).alloc (.cells #[.int .i64 d.client, .int .i64 d.req, .int .i64 d.kind, .string d.queue, .int .i64 d.a.vis, .int .i64 d.a.ret, .int .i64 d.a.del, .int .i64 d.a.win, .int .i64 d.a.max, .string d.a.dead, .bool d.a.fifo, .string d.body, .string d.group, .string d.key, .string d.receipt, .slice B nb db, .int .i64 d.n, .int .i64 d.m] 39)).cell? ⟨w.heap.size + 1, 0, none⟩ = some (.int .i64 d.client) := blk_cell HP0.out.blk0 0
  have a1 : ((w.alloc (.cells #[.int .i64 c.client, .int .i64 c.req, .int .i64 c.kind, .string c.queue, .int .i64 c.a.vis, .int .i64 c.a.ret, .int .i64 c.a.del, .int .i64 c.a.win, .int .i64 c.a.max, .string c.a.dead, .bool c.a.fifo, .string c.body, .string c.group, .string c.key, .string c.receipt, .slice A na ca, .int .i64 c.n, .int .i64 c.m] 39)).alloc (.cells #[.int .i64 d.client, .int .i64 d.req, .int .i64 d.kind, .string d.queue, .int .i64 d.a.vis, .int .i64 d.a.ret, .int .i64 d.a.del, .int .i64 d.a.win, .int .i64 d.a.max, .string d.a.dead, .bool d.a.fifo, .string d.body, .string d.group, .string d.key, .string d.receipt, .slice B nb db, .int .i64 d.n, .int .i64 d.m] 39)).cell? ⟨w.heap.size, 1, none⟩ = some (.int .i64 c.req) := blk_cell HP0.out.blk1 1
  have b1 : ((w.alloc (.cells #[.int .i64 c.client, .int .i64 c.req, .int .i64 c.kind, .string c.queue, .int .i64 c.a.vis, .int .i64 c.a.ret, .int .i64 c.a.del, .int .i64 c.a.win, .int .i64 c.a.max, .string c.a.dead, .bool c.a.fifo, .string c.body, .string c.group, .string c.key, .string c.receipt, .slice A na ca, .int .i64 c.n, .int .i64 c.m] 39)).alloc (.cells #[.int .i64 d.client, .int .i64 d.req, .int .i64 d.kind, .string d.queue, .int .i64 d.a.vis, .int .i64 d.a.ret, .int .i64 d.a.del, .int .i64 d.a.win, .int .i64 d.a.max, .string d.a.dead, .bool d.a.fifo, .string d.body, .string d.group, .string d.key, .string d.receipt, .slice B nb db, .int .i64 d.n, .int .i64 d.m] 39)).cell? ⟨w.heap.size + 1, 1, none⟩ = some (.int .i64 d.req) := blk_cell HP0.out.blk0 1
  have a2 : ((w.alloc (.cells #[.int .i64 c.client, .int .i64 c.req, .int .i64 c.kind, .string c.queue, .int .i64 c.a.vis, .int .i64 c.a.ret, .int .i64 c.a.del, .int .i64 c.a.win, .int .i64 c.a.max, .string c.a.dead, .bool c.a.fifo, .string c.body, .string c.group, .string c.key, .string c.receipt, .slice A na ca, .int .i64 c.n, .int .i64 c.m] 39)).alloc (.cells #[.int .i64 d.client, .int .i64 d.req, .int .i64 d.kind, .string d.queue, .int .i64 d.a.vis, .int .i64 d.a.ret, .int .i64 d.a.del, .int .i64 d.a.win, .int .i64 d.a.max, .string d.a.dead, .bool d.a.fifo, .string d.body, .string d.group, .string d.key, .string d.receipt, .slice B nb db, .int .i64 d.n, .int .i64 d.m] 39)).cell? ⟨w.heap.size, 2, none⟩ = some (.int .i64 c.kind) := blk_cell HP0.out.blk1 2
  have b2 : ((w.alloc (.cells #[.int .i64 c.client, .int .i64 c.req, .int .i64 c.kind, .string c.queue, .int .i64 c.a.vis, .int .i64 c.a.ret, .int .i64 c.a.del, .int .i64 c.a.win, .int .i64 c.a.max, .string c.a.dead, .bool c.a.fifo, .string c.body, .string c.group, .string c.key, .string c.receipt, .slice A na ca, .int .i64 c.n, .int .i64 c.m] 39)).alloc (.cells #[.int .i64 d.client, .int .i64 d.req, .int .i64 d.kind, .string d.queue, .int .i64 d.a.vis, .int .i64 d.a.ret, .int .i64 d.a.del, .int .i64 d.a.win, .int .i64 d.a.max, .string d.a.dead, .bool d.a.fifo, .string d.body, .string d.group, .string d.key, .string d.receipt, .slice B nb db, .int .i64 d.n, .int .i64 d.m] 39)).cell? ⟨w.heap.size + 1, 2, none⟩ = some (.int .i64 d.kind) := blk_cell HP0.out.blk0 2
  have a3 : ((w.alloc (.cells #[.int .i64 c.client, .int .i64 c.req, .int .i64 c.kind, .string c.queue, .int .i64 c.a.vis, .int .i64 c.a.ret, .int .i64 c.a.del, .int .i64 c.a.win, .int .i64 c.a.max, .string c.a.dead, .bool c.a.fifo, .string c.body, .string c.group, .string c.key, .string c.receipt, .slice A na ca, .int .i64 c.n, .int .i64 c.m] 39)).alloc (.cells #[.int .i64 d.client, .int .i64 d.req, .int .i64 d.kind, .string d.queue, .int .i64 d.a.vis, .int .i64 d.a.ret, .int .i64 d.a.del, .int .i64 d.a.win, .int .i64 d.a.max, .string d.a.dead, .bool d.a.fifo, .string d.body, .string d.group, .string d.key, .string d.receipt, .slice B nb db, .int .i64 d.n, .int .i64 d.m] 39)).cell? ⟨w.heap.size, 3, none⟩ = some (.string c.queue) := blk_cell HP0.out.blk1 3
  have b3 : ((w.alloc (.cells #[.int .i64 c.client, .int .i64 c.req, .int .i64 c.kind, .string c.queue, .int .i64 c.a.vis, .int .i64 c.a.ret, .int .i64 c.a.del, .int .i64 c.a.win, .int .i64 c.a.max, .string c.a.dead, .bool c.a.fifo, .string c.body, .string c.group, .string c.key, .string c.receipt, .slice A na ca, .int .i64 c.n, .int .i64 c.m] 39)).alloc (.cells #[.int .i64 d.client, .int .i64 d.req, .int .i64 d.kind, .string d.queue, .int .i64 d.a.vis, .int .i64 d.a.ret, .int .i64 d.a.del, .int .i64 d.a.win, .int .i64 d.a.max, .string d.a.dead, .bool d.a.fifo, .string d.body, .string d.group, .string d.key, .string d.receipt, .slice B nb db, .int .i64 d.n, .int .i64 d.m] 39)).cell? ⟨w.heap.size + 1, 3, none⟩ = some (.string d.queue) := blk_cell HP0.out.blk0 3
  have a4 : ((w.alloc (.cells #[.int .i64 c.client, .int .i64 c.req, .int .i64 c.kind, .string c.queue, .int .i64 c.a.vis, .int .i64 c.a.ret, .int .i64 c.a.del, .int .i64 c.a.win, .int .i64 c.a.max, .string c.a.dead, .bool c.a.fifo, .string c.body, .string c.group, .string c.key, .string c.receipt, .slice A na ca, .int .i64 c.n, .int .i64 c.m] 39)).alloc (.cells #[.int .i64 d.client, .int .i64 d.req, .int .i64 d.kind, .string d.queue, .int .i64 d.a.vis, .int .i64 d.a.ret, .int .i64 d.a.del, .int .i64 d.a.win, .int .i64 d.a.max, .string d.a.dead, .bool d.a.fifo, .string d.body, .string d.group, .string d.key, .string d.receipt, .slice B nb db, .int .i64 d.n, .int .i64 d.m] 39)).cell? ⟨w.heap.size, 4, none⟩ = some (.int .i64 c.a.vis) := blk_cell HP0.out.blk1 4
  have b4 : ((w.alloc (.cells #[.int .i64 c.client, .int .i64 c.req, .int .i64 c.kind, .string c.queue, .int .i64 c.a.vis, .int .i64 c.a.ret, .int .i64 c.a.del, .int .i64 c.a.win, .int .i64 c.a.max, .string c.a.dead, .bool c.a.fifo, .string c.body, .string c.group, .string c.key, .string c.receipt, .slice A na ca, .int .i64 c.n, .int .i64 c.m] 39)).alloc (.cells #[.int .i64 d.client, .int .i64 d.req, .int .i64 d.kind, .string d.queue, .int .i64 d.a.vis, .int .i64 d.a.ret, .int .i64 d.a.del, .int .i64 d.a.win, .int .i64 d.a.max, .string d.a.dead, .bool d.a.fifo, .string d.body, .string d.group, .string d.key, .string d.receipt, .slice B nb db, .int .i64 d.n, .int .i64 d.m] 39)).cell? ⟨w.heap.size + 1, 4, none⟩ = some (.int .i64 d.a.vis) := blk_cell HP0.out.blk0 4
  have a5 : ((w.alloc (.cells #[.int .i64 c.client, .int .i64 c.req, .int .i64 c.kind, .string c.queue, .int .i64 c.a.vis, .int .i64 c.a.ret, .int .i64 c.a.del, .int .i64 c.a.win, .int .i64 c.a.max, .string c.a.dead, .bool c.a.fifo, .string c.body, .string c.group, .string c.key, .string c.receipt, .slice A na ca, .int .i64 c.n, .int .i64 c.m] 39)).alloc (.cells #[.int .i64 d.client, .int .i64 d.req, .int .i64 d.kind, .string d.queue, .int .i64 d.a.vis, .int .i64 d.a.ret, .int .i64 d.a.del, .int .i64 d.a.win, .int .i64 d.a.max, .string d.a.dead, .bool d.a.fifo, .string d.body, .string d.group, .string d.key, .string d.receipt, .slice B nb db, .int .i64 d.n, .int .i64 d.m] 39)).cell? ⟨w.heap.size, 5, none⟩ = some (.int .i64 c.a.ret) := blk_cell HP0.out.blk1 5
  have b5 : ((w.alloc (.cells #[.int .i64 c.client, .int .i64 c.req, .int .i64 c.kind, .string c.queue, .int .i64 c.a.vis, .int .i64 c.a.ret, .int .i64 c.a.del, .int .i64 c.a.win, .int .i64 c.a.max, .string c.a.dead, .bool c.a.fifo, .string c.body, .string c.group, .string c.key, .string c.receipt, .slice A na ca, .int .i64 c.n, .int .i64 c.m] 39)).alloc (.cells #[.int .i64 d.client, .int .i64 d.req, .int .i64 d.kind, .string d.queue, .int .i64 d.a.vis, .int .i64 d.a.ret, .int .i64 d.a.del, .int .i64 d.a.win, .int .i64 d.a.max, .string d.a.dead, .bool d.a.fifo, .string d.body, .string d.group, .string d.key, .string d.receipt, .slice B nb db, .int .i64 d.n, .int .i64 d.m] 39)).cell? ⟨w.heap.size + 1, 5, none⟩ = some (.int .i64 d.a.ret) := blk_cell HP0.out.blk0 5
  have a6 : ((w.alloc (.cells #[.int .i64 c.client, .int .i64 c.req, .int .i64 c.kind, .string c.queue, .int .i64 c.a.vis, .int .i64 c.a.ret, .int .i64 c.a.del, .int .i64 c.a.win, .int .i64 c.a.max, .string c.a.dead, .bool c.a.fifo, .string c.body, .string c.group, .string c.key, .string c.receipt, .slice A na ca, .int .i64 c.n, .int .i64 c.m] 39)).alloc (.cells #[.int .i64 d.client, .int .i64 d.req, .int .i64 d.kind, .string d.queue, .int .i64 d.a.vis, .int .i64 d.a.ret, .int .i64 d.a.del, .int .i64 d.a.win, .int .i64 d.a.max, .string d.a.dead, .bool d.a.fifo, .string d.body, .string d.group, .string d.key, .string d.receipt, .slice B nb db, .int .i64 d.n, .int .i64 d.m] 39)).cell? ⟨w.heap.size, 6, none⟩ = some (.int .i64 c.a.del) := blk_cell HP0.out.blk1 6
  have b6 : ((w.alloc (.cells #[.int .i64 c.client, .int .i64 c.req, .int .i64 c.kind, .string c.queue, .int .i64 c.a.vis, .int .i64 c.a.ret, .int .i64 c.a.del, .int .i64 c.a.win, .int .i64 c.a.max, .string c.a.dead, .bool c.a.fifo, .string c.body, .string c.group, .string c.key, .string c.receipt, .slice A na ca, .int .i64 c.n, .int .i64 c.m] 39)).alloc (.cells #[.int .i64 d.client, .int .i64 d.req, .int .i64 d.kind, .string d.queue, .int .i64 d.a.vis, .int .i64 d.a.ret, .int .i64 d.a.del, .int .i64 d.a.win, .int .i64 d.a.max, .string d.a.dead, .bool d.a.fifo, .string d.body, .string d.group, .string d.key, .string d.receipt, .slice B nb db, .int .i64 d.n, .int .i64 d.m] 39)).cell? ⟨w.heap.size + 1, 6, none⟩ = some (.int .i64 d.a.del) := blk_cell HP0.out.blk0 6
  have a7 : ((w.alloc (.cells #[.int .i64 c.client, .int .i64 c.req, .int .i64 c.kind, .string c.queue, .int .i64 c.a.vis, .int .i64 c.a.ret, .int .i64 c.a.del, .int .i64 c.a.win, .int .i64 c.a.max, .string c.a.dead, .bool c.a.fifo, .string c.body, .string c.group, .string c.key, .string c.receipt, .slice A na ca, .int .i64 c.n, .int .i64 c.m] 39)).alloc (.cells #[.int .i64 d.client, .int .i64 d.req, .int .i64 d.kind, .string d.queue, .int .i64 d.a.vis, .int .i64 d.a.ret, .int .i64 d.a.del, .int .i64 d.a.win, .int .i64 d.a.max, .string d.a.dead, .bool d.a.fifo, .string d.body, .string d.group, .string d.key, .string d.receipt, .slice B nb db, .int .i64 d.n, .int .i64 d.m] 39)).cell? ⟨w.heap.size, 7, none⟩ = some (.int .i64 c.a.win) := blk_cell HP0.out.blk1 7
  have b7 : ((w.alloc (.cells #[.int .i64 c.client, .int .i64 c.req, .int .i64 c.kind, .string c.queue, .int .i64 c.a.vis, .int .i64 c.a.ret, .int .i64 c.a.del, .int .i64 c.a.win, .int .i64 c.a.max, .string c.a.dead, .bool c.a.fifo, .string c.body, .string c.group, .string c.key, .string c.receipt, .slice A na ca, .int .i64 c.n, .int .i64 c.m] 39)).alloc (.cells #[.int .i64 d.client, .int .i64 d.req, .int .i64 d.kind, .string d.queue, .int .i64 d.a.vis, .int .i64 d.a.ret, .int .i64 d.a.del, .int .i64 d.a.win, .int .i64 d.a.max, .string d.a.dead, .bool d.a.fifo, .string d.body, .string d.group, .string d.key, .string d.receipt, .slice B nb db, .int .i64 d.n, .int .i64 d.m] 39)).cell? ⟨w.heap.size + 1, 7, none⟩ = some (.int .i64 d.a.win) := blk_cell HP0.out.blk0 7
  have a8 : ((w.alloc (.cells #[.int .i64 c.client, .int .i64 c.req, .int .i64 c.kind, .string c.queue, .int .i64 c.a.vis, .int .i64 c.a.ret, .int .i64 c.a.del, .int .i64 c.a.win, .int .i64 c.a.max, .string c.a.dead, .bool c.a.fifo, .string c.body, .string c.group, .string c.key, .string c.receipt, .slice A na ca, .int .i64 c.n, .int .i64 c.m] 39)).alloc (.cells #[.int .i64 d.client, .int .i64 d.req, .int .i64 d.kind, .string d.queue, .int .i64 d.a.vis, .int .i64 d.a.ret, .int .i64 d.a.del, .int .i64 d.a.win, .int .i64 d.a.max, .string d.a.dead, .bool d.a.fifo, .string d.body, .string d.group, .string d.key, .string d.receipt, .slice B nb db, .int .i64 d.n, .int .i64 d.m] 39)).cell? ⟨w.heap.size, 8, none⟩ = some (.int .i64 c.a.max) := blk_cell HP0.out.blk1 8
  have b8 : ((w.alloc (.cells #[.int .i64 c.client, .int .i64 c.req, .int .i64 c.kind, .string c.queue, .int .i64 c.a.vis, .int .i64 c.a.ret, .int .i64 c.a.del, .int .i64 c.a.win, .int .i64 c.a.max, .string c.a.dead, .bool c.a.fifo, .string c.body, .string c.group, .string c.key, .string c.receipt, .slice A na ca, .int .i64 c.n, .int .i64 c.m] 39)).alloc (.cells #[.int .i64 d.client, .int .i64 d.req, .int .i64 d.kind, .string d.queue, .int .i64 d.a.vis, .int .i64 d.a.ret, .int .i64 d.a.del, .int .i64 d.a.win, .int .i64 d.a.max, .string d.a.dead, .bool d.a.fifo, .string d.body, .string d.group, .string d.key, .string d.receipt, .slice B nb db, .int .i64 d.n, .int .i64 d.m] 39)).cell? ⟨w.heap.size + 1, 8, none⟩ = some (.int .i64 d.a.max) := blk_cell HP0.out.blk0 8
  have a9 : ((w.alloc (.cells #[.int .i64 c.client, .int .i64 c.req, .int .i64 c.kind, .string c.queue, .int .i64 c.a.vis, .int .i64 c.a.ret, .int .i64 c.a.del, .int .i64 c.a.win, .int .i64 c.a.max, .string c.a.dead, .bool c.a.fifo, .string c.body, .string c.group, .string c.key, .string c.receipt, .slice A na ca, .int .i64 c.n, .int .i64 c.m] 39)).alloc (.cells #[.int .i64 d.client, .int .i64 d.req, .int .i64 d.kind, .string d.queue, .int .i64 d.a.vis, .int .i64 d.a.ret, .int .i64 d.a.del, .int .i64 d.a.win, .int .i64 d.a.max, .string d.a.dead, .bool d.a.fifo, .string d.body, .string d.group, .string d.key, .string d.receipt, .slice B nb db, .int .i64 d.n, .int .i64 d.m] 39)).cell? ⟨w.heap.size, 9, none⟩ = some (.string c.a.dead) := blk_cell HP0.out.blk1 9
  have b9 : ((w.alloc (.cells #[.int .i64 c.client, .int .i64 c.req, .int .i64 c.kind, .string c.queue, .int .i64 c.a.vis, .int .i64 c.a.ret, .int .i64 c.a.del, .int .i64 c.a.win, .int .i64 c.a.max, .string c.a.dead, .bool c.a.fifo, .string c.body, .string c.group, .string c.key, .string c.receipt, .slice A na ca, .int .i64 c.n, .int .i64 c.m] 39)).alloc (.cells #[.int .i64 d.client, .int .i64 d.req, .int .i64 d.kind, .string d.queue, .int .i64 d.a.vis, .int .i64 d.a.ret, .int .i64 d.a.del, .int .i64 d.a.win, .int .i64 d.a.max, .string d.a.dead, .bool d.a.fifo, .string d.body, .string d.group, .string d.key, .string d.receipt, .slice B nb db, .int .i64 d.n, .int .i64 d.m] 39)).cell? ⟨w.heap.size + 1, 9, none⟩ = some (.string d.a.dead) := blk_cell HP0.out.blk0 9
  have a10 : ((w.alloc (.cells #[.int .i64 c.client, .int .i64 c.req, .int .i64 c.kind, .string c.queue, .int .i64 c.a.vis, .int .i64 c.a.ret, .int .i64 c.a.del, .int .i64 c.a.win, .int .i64 c.a.max, .string c.a.dead, .bool c.a.fifo, .string c.body, .string c.group, .string c.key, .string c.receipt, .slice A na ca, .int .i64 c.n, .int .i64 c.m] 39)).alloc (.cells #[.int .i64 d.client, .int .i64 d.req, .int .i64 d.kind, .string d.queue, .int .i64 d.a.vis, .int .i64 d.a.ret, .int .i64 d.a.del, .int .i64 d.a.win, .int .i64 d.a.max, .string d.a.dead, .bool d.a.fifo, .string d.body, .string d.group, .string d.key, .string d.receipt, .slice B nb db, .int .i64 d.n, .int .i64 d.m] 39)).cell? ⟨w.heap.size, 10, none⟩ = some (.bool c.a.fifo) := blk_cell HP0.out.blk1 10
  have b10 : ((w.alloc (.cells #[.int .i64 c.client, .int .i64 c.req, .int .i64 c.kind, .string c.queue, .int .i64 c.a.vis, .int .i64 c.a.ret, .int .i64 c.a.del, .int .i64 c.a.win, .int .i64 c.a.max, .string c.a.dead, .bool c.a.fifo, .string c.body, .string c.group, .string c.key, .string c.receipt, .slice A na ca, .int .i64 c.n, .int .i64 c.m] 39)).alloc (.cells #[.int .i64 d.client, .int .i64 d.req, .int .i64 d.kind, .string d.queue, .int .i64 d.a.vis, .int .i64 d.a.ret, .int .i64 d.a.del, .int .i64 d.a.win, .int .i64 d.a.max, .string d.a.dead, .bool d.a.fifo, .string d.body, .string d.group, .string d.key, .string d.receipt, .slice B nb db, .int .i64 d.n, .int .i64 d.m] 39)).cell? ⟨w.heap.size + 1, 10, none⟩ = some (.bool d.a.fifo) := blk_cell HP0.out.blk0 10
  have a11 : ((w.alloc (.cells #[.int .i64 c.client, .int .i64 c.req, .int .i64 c.kind, .string c.queue, .int .i64 c.a.vis, .int .i64 c.a.ret, .int .i64 c.a.del, .int .i64 c.a.win, .int .i64 c.a.max, .string c.a.dead, .bool c.a.fifo, .string c.body, .string c.group, .string c.key, .string c.receipt, .slice A na ca, .int .i64 c.n, .int .i64 c.m] 39)).alloc (.cells #[.int .i64 d.client, .int .i64 d.req, .int .i64 d.kind, .string d.queue, .int .i64 d.a.vis, .int .i64 d.a.ret, .int .i64 d.a.del, .int .i64 d.a.win, .int .i64 d.a.max, .string d.a.dead, .bool d.a.fifo, .string d.body, .string d.group, .string d.key, .string d.receipt, .slice B nb db, .int .i64 d.n, .int .i64 d.m] 39)).cell? ⟨w.heap.size, 11, none⟩ = some (.string c.body) := blk_cell HP0.out.blk1 11
  have b11 : ((w.alloc (.cells #[.int .i64 c.client, .int .i64 c.req, .int .i64 c.kind, .string c.queue, .int .i64 c.a.vis, .int .i64 c.a.ret, .int .i64 c.a.del, .int .i64 c.a.win, .int .i64 c.a.max, .string c.a.dead, .bool c.a.fifo, .string c.body, .string c.group, .string c.key, .string c.receipt, .slice A na ca, .int .i64 c.n, .int .i64 c.m] 39)).alloc (.cells #[.int .i64 d.client, .int .i64 d.req, .int .i64 d.kind, .string d.queue, .int .i64 d.a.vis, .int .i64 d.a.ret, .int .i64 d.a.del, .int .i64 d.a.win, .int .i64 d.a.max, .string d.a.dead, .bool d.a.fifo, .string d.body, .string d.group, .string d.key, .string d.receipt, .slice B nb db, .int .i64 d.n, .int .i64 d.m] 39)).cell? ⟨w.heap.size + 1, 11, none⟩ = some (.string d.body) := blk_cell HP0.out.blk0 11
  have a12 : ((w.alloc (.cells #[.int .i64 c.client, .int .i64 c.req, .int .i64 c.kind, .string c.queue, .int .i64 c.a.vis, .int .i64 c.a.ret, .int .i64 c.a.del, .int .i64 c.a.win, .int .i64 c.a.max, .string c.a.dead, .bool c.a.fifo, .string c.body, .string c.group, .string c.key, .string c.receipt, .slice A na ca, .int .i64 c.n, .int .i64 c.m] 39)).alloc (.cells #[.int .i64 d.client, .int .i64 d.req, .int .i64 d.kind, .string d.queue, .int .i64 d.a.vis, .int .i64 d.a.ret, .int .i64 d.a.del, .int .i64 d.a.win, .int .i64 d.a.max, .string d.a.dead, .bool d.a.fifo, .string d.body, .string d.group, .string d.key, .string d.receipt, .slice B nb db, .int .i64 d.n, .int .i64 d.m] 39)).cell? ⟨w.heap.size, 12, none⟩ = some (.string c.group) := blk_cell HP0.out.blk1 12
  have b12 : ((w.alloc (.cells #[.int .i64 c.client, .int .i64 c.req, .int .i64 c.kind, .string c.queue, .int .i64 c.a.vis, .int .i64 c.a.ret, .int .i64 c.a.del, .int .i64 c.a.win, .int .i64 c.a.max, .string c.a.dead, .bool c.a.fifo, .string c.body, .string c.group, .string c.key, .string c.receipt, .slice A na ca, .int .i64 c.n, .int .i64 c.m] 39)).alloc (.cells #[.int .i64 d.client, .int .i64 d.req, .int .i64 d.kind, .string d.queue, .int .i64 d.a.vis, .int .i64 d.a.ret, .int .i64 d.a.del, .int .i64 d.a.win, .int .i64 d.a.max, .string d.a.dead, .bool d.a.fifo, .string d.body, .string d.group, .string d.key, .string d.receipt, .slice B nb db, .int .i64 d.n, .int .i64 d.m] 39)).cell? ⟨w.heap.size + 1, 12, none⟩ = some (.string d.group) := blk_cell HP0.out.blk0 12
  have a13 : ((w.alloc (.cells #[.int .i64 c.client, .int .i64 c.req, .int .i64 c.kind, .string c.queue, .int .i64 c.a.vis, .int .i64 c.a.ret, .int .i64 c.a.del, .int .i64 c.a.win, .int .i64 c.a.max, .string c.a.dead, .bool c.a.fifo, .string c.body, .string c.group, .string c.key, .string c.receipt, .slice A na ca, .int .i64 c.n, .int .i64 c.m] 39)).alloc (.cells #[.int .i64 d.client, .int .i64 d.req, .int .i64 d.kind, .string d.queue, .int .i64 d.a.vis, .int .i64 d.a.ret, .int .i64 d.a.del, .int .i64 d.a.win, .int .i64 d.a.max, .string d.a.dead, .bool d.a.fifo, .string d.body, .string d.group, .string d.key, .string d.receipt, .slice B nb db, .int .i64 d.n, .int .i64 d.m] 39)).cell? ⟨w.heap.size, 13, none⟩ = some (.string c.key) := blk_cell HP0.out.blk1 13
  have b13 : ((w.alloc (.cells #[.int .i64 c.client, .int .i64 c.req, .int .i64 c.kind, .string c.queue, .int .i64 c.a.vis, .int .i64 c.a.ret, .int .i64 c.a.del, .int .i64 c.a.win, .int .i64 c.a.max, .string c.a.dead, .bool c.a.fifo, .string c.body, .string c.group, .string c.key, .string c.receipt, .slice A na ca, .int .i64 c.n, .int .i64 c.m] 39)).alloc (.cells #[.int .i64 d.client, .int .i64 d.req, .int .i64 d.kind, .string d.queue, .int .i64 d.a.vis, .int .i64 d.a.ret, .int .i64 d.a.del, .int .i64 d.a.win, .int .i64 d.a.max, .string d.a.dead, .bool d.a.fifo, .string d.body, .string d.group, .string d.key, .string d.receipt, .slice B nb db, .int .i64 d.n, .int .i64 d.m] 39)).cell? ⟨w.heap.size + 1, 13, none⟩ = some (.string d.key) := blk_cell HP0.out.blk0 13
  have a14 : ((w.alloc (.cells #[.int .i64 c.client, .int .i64 c.req, .int .i64 c.kind, .string c.queue, .int .i64 c.a.vis, .int .i64 c.a.ret, .int .i64 c.a.del, .int .i64 c.a.win, .int .i64 c.a.max, .string c.a.dead, .bool c.a.fifo, .string c.body, .string c.group, .string c.key, .string c.receipt, .slice A na ca, .int .i64 c.n, .int .i64 c.m] 39)).alloc (.cells #[.int .i64 d.client, .int .i64 d.req, .int .i64 d.kind, .string d.queue, .int .i64 d.a.vis, .int .i64 d.a.ret, .int .i64 d.a.del, .int .i64 d.a.win, .int .i64 d.a.max, .string d.a.dead, .bool d.a.fifo, .string d.body, .string d.group, .string d.key, .string d.receipt, .slice B nb db, .int .i64 d.n, .int .i64 d.m] 39)).cell? ⟨w.heap.size, 14, none⟩ = some (.string c.receipt) := blk_cell HP0.out.blk1 14
  have b14 : ((w.alloc (.cells #[.int .i64 c.client, .int .i64 c.req, .int .i64 c.kind, .string c.queue, .int .i64 c.a.vis, .int .i64 c.a.ret, .int .i64 c.a.del, .int .i64 c.a.win, .int .i64 c.a.max, .string c.a.dead, .bool c.a.fifo, .string c.body, .string c.group, .string c.key, .string c.receipt, .slice A na ca, .int .i64 c.n, .int .i64 c.m] 39)).alloc (.cells #[.int .i64 d.client, .int .i64 d.req, .int .i64 d.kind, .string d.queue, .int .i64 d.a.vis, .int .i64 d.a.ret, .int .i64 d.a.del, .int .i64 d.a.win, .int .i64 d.a.max, .string d.a.dead, .bool d.a.fifo, .string d.body, .string d.group, .string d.key, .string d.receipt, .slice B nb db, .int .i64 d.n, .int .i64 d.m] 39)).cell? ⟨w.heap.size + 1, 14, none⟩ = some (.string d.receipt) := blk_cell HP0.out.blk0 14
  have a15 : ((w.alloc (.cells #[.int .i64 c.client, .int .i64 c.req, .int .i64 c.kind, .string c.queue, .int .i64 c.a.vis, .int .i64 c.a.ret, .int .i64 c.a.del, .int .i64 c.a.win, .int .i64 c.a.max, .string c.a.dead, .bool c.a.fifo, .string c.body, .string c.group, .string c.key, .string c.receipt, .slice A na ca, .int .i64 c.n, .int .i64 c.m] 39)).alloc (.cells #[.int .i64 d.client, .int .i64 d.req, .int .i64 d.kind, .string d.queue, .int .i64 d.a.vis, .int .i64 d.a.ret, .int .i64 d.a.del, .int .i64 d.a.win, .int .i64 d.a.max, .string d.a.dead, .bool d.a.fifo, .string d.body, .string d.group, .string d.key, .string d.receipt, .slice B nb db, .int .i64 d.n, .int .i64 d.m] 39)).cell? ⟨w.heap.size, 15, none⟩ = some (.slice A na ca) := blk_cell HP0.out.blk1 15
  have b15 : ((w.alloc (.cells #[.int .i64 c.client, .int .i64 c.req, .int .i64 c.kind, .string c.queue, .int .i64 c.a.vis, .int .i64 c.a.ret, .int .i64 c.a.del, .int .i64 c.a.win, .int .i64 c.a.max, .string c.a.dead, .bool c.a.fifo, .string c.body, .string c.group, .string c.key, .string c.receipt, .slice A na ca, .int .i64 c.n, .int .i64 c.m] 39)).alloc (.cells #[.int .i64 d.client, .int .i64 d.req, .int .i64 d.kind, .string d.queue, .int .i64 d.a.vis, .int .i64 d.a.ret, .int .i64 d.a.del, .int .i64 d.a.win, .int .i64 d.a.max, .string d.a.dead, .bool d.a.fifo, .string d.body, .string d.group, .string d.key, .string d.receipt, .slice B nb db, .int .i64 d.n, .int .i64 d.m] 39)).cell? ⟨w.heap.size + 1, 15, none⟩ = some (.slice B nb db) := blk_cell HP0.out.blk0 15
  have a16 : ((w.alloc (.cells #[.int .i64 c.client, .int .i64 c.req, .int .i64 c.kind, .string c.queue, .int .i64 c.a.vis, .int .i64 c.a.ret, .int .i64 c.a.del, .int .i64 c.a.win, .int .i64 c.a.max, .string c.a.dead, .bool c.a.fifo, .string c.body, .string c.group, .string c.key, .string c.receipt, .slice A na ca, .int .i64 c.n, .int .i64 c.m] 39)).alloc (.cells #[.int .i64 d.client, .int .i64 d.req, .int .i64 d.kind, .string d.queue, .int .i64 d.a.vis, .int .i64 d.a.ret, .int .i64 d.a.del, .int .i64 d.a.win, .int .i64 d.a.max, .string d.a.dead, .bool d.a.fifo, .string d.body, .string d.group, .string d.key, .string d.receipt, .slice B nb db, .int .i64 d.n, .int .i64 d.m] 39)).cell? ⟨w.heap.size, 16, none⟩ = some (.int .i64 c.n) := blk_cell HP0.out.blk1 16
  have b16 : ((w.alloc (.cells #[.int .i64 c.client, .int .i64 c.req, .int .i64 c.kind, .string c.queue, .int .i64 c.a.vis, .int .i64 c.a.ret, .int .i64 c.a.del, .int .i64 c.a.win, .int .i64 c.a.max, .string c.a.dead, .bool c.a.fifo, .string c.body, .string c.group, .string c.key, .string c.receipt, .slice A na ca, .int .i64 c.n, .int .i64 c.m] 39)).alloc (.cells #[.int .i64 d.client, .int .i64 d.req, .int .i64 d.kind, .string d.queue, .int .i64 d.a.vis, .int .i64 d.a.ret, .int .i64 d.a.del, .int .i64 d.a.win, .int .i64 d.a.max, .string d.a.dead, .bool d.a.fifo, .string d.body, .string d.group, .string d.key, .string d.receipt, .slice B nb db, .int .i64 d.n, .int .i64 d.m] 39)).cell? ⟨w.heap.size + 1, 16, none⟩ = some (.int .i64 d.n) := blk_cell HP0.out.blk0 16
  have a17 : ((w.alloc (.cells #[.int .i64 c.client, .int .i64 c.req, .int .i64 c.kind, .string c.queue, .int .i64 c.a.vis, .int .i64 c.a.ret, .int .i64 c.a.del, .int .i64 c.a.win, .int .i64 c.a.max, .string c.a.dead, .bool c.a.fifo, .string c.body, .string c.group, .string c.key, .string c.receipt, .slice A na ca, .int .i64 c.n, .int .i64 c.m] 39)).alloc (.cells #[.int .i64 d.client, .int .i64 d.req, .int .i64 d.kind, .string d.queue, .int .i64 d.a.vis, .int .i64 d.a.ret, .int .i64 d.a.del, .int .i64 d.a.win, .int .i64 d.a.max, .string d.a.dead, .bool d.a.fifo, .string d.body, .string d.group, .string d.key, .string d.receipt, .slice B nb db, .int .i64 d.n, .int .i64 d.m] 39)).cell? ⟨w.heap.size, 17, none⟩ = some (.int .i64 c.m) := blk_cell HP0.out.blk1 17
  have b17 : ((w.alloc (.cells #[.int .i64 c.client, .int .i64 c.req, .int .i64 c.kind, .string c.queue, .int .i64 c.a.vis, .int .i64 c.a.ret, .int .i64 c.a.del, .int .i64 c.a.win, .int .i64 c.a.max, .string c.a.dead, .bool c.a.fifo, .string c.body, .string c.group, .string c.key, .string c.receipt, .slice A na ca, .int .i64 c.n, .int .i64 c.m] 39)).alloc (.cells #[.int .i64 d.client, .int .i64 d.req, .int .i64 d.kind, .string d.queue, .int .i64 d.a.vis, .int .i64 d.a.ret, .int .i64 d.a.del, .int .i64 d.a.win, .int .i64 d.a.max, .string d.a.dead, .bool d.a.fifo, .string d.body, .string d.group, .string d.key, .string d.receipt, .slice B nb db, .int .i64 d.n, .int .i64 d.m] 39)).cell? ⟨w.heap.size + 1, 17, none⟩ = some (.int .i64 d.m) := blk_cell HP0.out.blk0 17
  by_cases hl : na = nb
  case neg =>
    have hne : ((na : Int) != (nb : Int)) = true := by simpa using fun e => hl (by omega)
    have HX := Lib.hid (show ¬ c = d from fun e => hl (by rw [← HNA.out, ← HNB.out, e]))
    clear hl
    go_enter Try.func8, Try.ntmps8
    go_wp2_with fail
    go_ret
    exact ⟨⟨false, rfl, Iff.intro (fun h => nomatch h) (fun h => absurd h HX.out)⟩, HP0.out.belowW⟩
  case pos =>
  subst hl
  go_enter Try.func8, Try.ntmps8
  go_wp2_with fail
  go_loopw [17] (fun i wr => ∃ j : Nat, i = .int .i64 j ∧ j ≤ na ∧ Hid (c.bodies.take j = d.bodies.take j) ∧ Hp w wr [ABlk (w.heap.size + 1) (.cells #[.int .i64 d.client, .int .i64 d.req, .int .i64 d.kind, .string d.queue, .int .i64 d.a.vis, .int .i64 d.a.ret, .int .i64 d.a.del, .int .i64 d.a.win, .int .i64 d.a.max, .string d.a.dead, .bool d.a.fifo, .string d.body, .string d.group, .string d.key, .string d.receipt, .slice B na db, .int .i64 d.n, .int .i64 d.m] 39 (0, 0)), ABlk w.heap.size (.cells #[.int .i64 c.client, .int .i64 c.req, .int .i64 c.kind, .string c.queue, .int .i64 c.a.vis, .int .i64 c.a.ret, .int .i64 c.a.del, .int .i64 c.a.win, .int .i64 c.a.max, .string c.a.dead, .bool c.a.fifo, .string c.body, .string c.group, .string c.key, .string c.receipt, .slice A na ca, .int .i64 c.n, .int .i64 c.m] 39 (0, 0))]) (fun i _ => na - (intOf i).toNat)
  case atStart => exact ⟨0, rfl, Nat.zero_le _, Lib.hid rfl, HP0.out⟩
  case round =>
    obtain ⟨j, rfl, hj, HT, hQ⟩ := hrel
    have HQ := Lib.hid hQ
    clear hQ
    clear a0 b0 a1 b1 a2 b2 a3 b3 a4 b4 a5 b5 a6 b6 a7 b7 a8 b8 a9 b9 a10 b10 a11 b11 a12 b12 a13 b13 a14 b14 a15 b15 a16 b16 a17 b17
    have a0 : wr.cell? ⟨w.heap.size, 0, none⟩ = some (.int .i64 c.client) := blk_cell HQ.out.blk1 0
    have b0 : wr.cell? ⟨w.heap.size + 1, 0, none⟩ = some (.int .i64 d.client) := blk_cell HQ.out.blk0 0
    have a1 : wr.cell? ⟨w.heap.size, 1, none⟩ = some (.int .i64 c.req) := blk_cell HQ.out.blk1 1
    have b1 : wr.cell? ⟨w.heap.size + 1, 1, none⟩ = some (.int .i64 d.req) := blk_cell HQ.out.blk0 1
    have a2 : wr.cell? ⟨w.heap.size, 2, none⟩ = some (.int .i64 c.kind) := blk_cell HQ.out.blk1 2
    have b2 : wr.cell? ⟨w.heap.size + 1, 2, none⟩ = some (.int .i64 d.kind) := blk_cell HQ.out.blk0 2
    have a3 : wr.cell? ⟨w.heap.size, 3, none⟩ = some (.string c.queue) := blk_cell HQ.out.blk1 3
    have b3 : wr.cell? ⟨w.heap.size + 1, 3, none⟩ = some (.string d.queue) := blk_cell HQ.out.blk0 3
    have a4 : wr.cell? ⟨w.heap.size, 4, none⟩ = some (.int .i64 c.a.vis) := blk_cell HQ.out.blk1 4
    have b4 : wr.cell? ⟨w.heap.size + 1, 4, none⟩ = some (.int .i64 d.a.vis) := blk_cell HQ.out.blk0 4
    have a5 : wr.cell? ⟨w.heap.size, 5, none⟩ = some (.int .i64 c.a.ret) := blk_cell HQ.out.blk1 5
    have b5 : wr.cell? ⟨w.heap.size + 1, 5, none⟩ = some (.int .i64 d.a.ret) := blk_cell HQ.out.blk0 5
    have a6 : wr.cell? ⟨w.heap.size, 6, none⟩ = some (.int .i64 c.a.del) := blk_cell HQ.out.blk1 6
    have b6 : wr.cell? ⟨w.heap.size + 1, 6, none⟩ = some (.int .i64 d.a.del) := blk_cell HQ.out.blk0 6
    have a7 : wr.cell? ⟨w.heap.size, 7, none⟩ = some (.int .i64 c.a.win) := blk_cell HQ.out.blk1 7
    have b7 : wr.cell? ⟨w.heap.size + 1, 7, none⟩ = some (.int .i64 d.a.win) := blk_cell HQ.out.blk0 7
    have a8 : wr.cell? ⟨w.heap.size, 8, none⟩ = some (.int .i64 c.a.max) := blk_cell HQ.out.blk1 8
    have b8 : wr.cell? ⟨w.heap.size + 1, 8, none⟩ = some (.int .i64 d.a.max) := blk_cell HQ.out.blk0 8
    have a9 : wr.cell? ⟨w.heap.size, 9, none⟩ = some (.string c.a.dead) := blk_cell HQ.out.blk1 9
    have b9 : wr.cell? ⟨w.heap.size + 1, 9, none⟩ = some (.string d.a.dead) := blk_cell HQ.out.blk0 9
    have a10 : wr.cell? ⟨w.heap.size, 10, none⟩ = some (.bool c.a.fifo) := blk_cell HQ.out.blk1 10
    have b10 : wr.cell? ⟨w.heap.size + 1, 10, none⟩ = some (.bool d.a.fifo) := blk_cell HQ.out.blk0 10
    have a11 : wr.cell? ⟨w.heap.size, 11, none⟩ = some (.string c.body) := blk_cell HQ.out.blk1 11
    have b11 : wr.cell? ⟨w.heap.size + 1, 11, none⟩ = some (.string d.body) := blk_cell HQ.out.blk0 11
    have a12 : wr.cell? ⟨w.heap.size, 12, none⟩ = some (.string c.group) := blk_cell HQ.out.blk1 12
    have b12 : wr.cell? ⟨w.heap.size + 1, 12, none⟩ = some (.string d.group) := blk_cell HQ.out.blk0 12
    have a13 : wr.cell? ⟨w.heap.size, 13, none⟩ = some (.string c.key) := blk_cell HQ.out.blk1 13
    have b13 : wr.cell? ⟨w.heap.size + 1, 13, none⟩ = some (.string d.key) := blk_cell HQ.out.blk0 13
    have a14 : wr.cell? ⟨w.heap.size, 14, none⟩ = some (.string c.receipt) := blk_cell HQ.out.blk1 14
    have b14 : wr.cell? ⟨w.heap.size + 1, 14, none⟩ = some (.string d.receipt) := blk_cell HQ.out.blk0 14
    have a15 : wr.cell? ⟨w.heap.size, 15, none⟩ = some (.slice A na ca) := blk_cell HQ.out.blk1 15
    have b15 : wr.cell? ⟨w.heap.size + 1, 15, none⟩ = some (.slice B na db) := blk_cell HQ.out.blk0 15
    have a16 : wr.cell? ⟨w.heap.size, 16, none⟩ = some (.int .i64 c.n) := blk_cell HQ.out.blk1 16
    have b16 : wr.cell? ⟨w.heap.size + 1, 16, none⟩ = some (.int .i64 d.n) := blk_cell HQ.out.blk0 16
    have a17 : wr.cell? ⟨w.heap.size, 17, none⟩ = some (.int .i64 c.m) := blk_cell HQ.out.blk1 17
    have b17 : wr.cell? ⟨w.heap.size + 1, 17, none⟩ = some (.int .i64 d.m) := blk_cell HQ.out.blk0 17
    by_cases hjn : j < na
    case pos =>
      obtain ⟨ad, x, rfl, hx, d0⟩ := C_nth_scalar (Kd.C_below HC.out HQ.out.belowW) j hjn
      obtain ⟨ae, y, rfl, hy, e0⟩ := C_nth_scalar (Kd.C_below HD.out HQ.out.belowW) j hjn
      have i0 : (0 : Int) ≤ (j : Int) := by omega
      have i1 : (j : Int) < (na : Int) := by omega
      by_cases hxy : x = y
      case pos =>
        subst hxy
        have HT2 := Lib.hid (show c.bodies.take (j + 1) = d.bodies.take (j + 1) by rw [List.take_add_one, List.take_add_one, HT.out, hx, hy])
        clear hx hy
        go_wp2_with fail
        go_quiet (fail)
        go_wp2_with fail
        refine ⟨⟨j + 1, by simp, by omega, HT2, HQ.out.below (pw_below_drewN (Below.refl _ _) _)⟩, ?_⟩
        simp [intOf]
        omega
      case neg =>
        have HX := Lib.hid (show ¬ c = d from fun e => hxy (by subst e; exact Option.some.inj (hx.symm.trans hy)))
        have hsb : (x.toList == y.toList) = false := by rw [strBeq]; exact decide_eq_false hxy
        clear hx hy hxy
        go_wp2_with fail
        go_quiet (fail)
        have HQ2 := Lib.hid (HQ.out.below (pw_below_drewN (Below.refl _ _) nq))
        go_wp2_with fail
        go_ret
        exact ⟨⟨false, rfl, Iff.intro (fun h => nomatch h) (fun h => absurd h HX.out)⟩, HQ2.out.belowW⟩
    case neg =>
      have i1 : ¬ (j : Int) < (na : Int) := by omega
      have HBD := Lib.hid (show c.bodies = d.bodies by
        have h := HT.out
        rw [List.take_of_length_le (by rw [HNA.out]; omega), List.take_of_length_le (by rw [HNB.out]; omega)] at h
        exact h)
      have hQA := eqlQA c.a d.a
      go_upto_region 9 with (fail)
      go_cut [6] (fun bv wx => ∃ b : Bool, bv = .bool b ∧ (b = true ↔ c.client = d.client ∧ c.req = d.req ∧ c.kind = d.kind ∧ c.n = d.n ∧ c.m = d.m ∧ c.a = d.a) ∧ wx = wr)
      case first =>
        by_cases k0 : c.client = d.client
        case neg =>
          have fk0 : (c.client == d.client) = false := by simpa using k0
          go_wp2_with fail
          go_meet
          case rel => exact ⟨false, rfl, Iff.intro (fun h => nomatch h) (fun h => absurd h.1 k0), rfl⟩
        case pos =>
        have fk0 : (c.client == d.client) = true := by rw [k0]; exact beq_self_eq_true _
        have Hk0 := Lib.hid k0
        clear k0
        by_cases k1 : c.req = d.req
        case neg =>
          have fk1 : (c.req == d.req) = false := by simpa using k1
          go_wp2_with fail
          go_meet
          case rel => exact ⟨false, rfl, Iff.intro (fun h => nomatch h) (fun h => absurd h.2.1 k1), rfl⟩
        case pos =>
        have fk1 : (c.req == d.req) = true := by rw [k1]; exact beq_self_eq_true _
        have Hk1 := Lib.hid k1
        clear k1
        by_cases k2 : c.kind = d.kind
        case neg =>
          have fk2 : (c.kind == d.kind) = false := by simpa using k2
          go_wp2_with fail
          go_meet
          case rel => exact ⟨false, rfl, Iff.intro (fun h => nomatch h) (fun h => absurd h.2.2.1 k2), rfl⟩
        case pos =>
        have fk2 : (c.kind == d.kind) = true := by rw [k2]; exact beq_self_eq_true _
        have Hk2 := Lib.hid k2
        clear k2
        by_cases k3 : c.n = d.n
        case neg =>
          have fk3 : (c.n == d.n) = false := by simpa using k3
          go_wp2_with fail
          go_meet
          case rel => exact ⟨false, rfl, Iff.intro (fun h => nomatch h) (fun h => absurd h.2.2.2.1 k3), rfl⟩
        case pos =>
        have fk3 : (c.n == d.n) = true := by rw [k3]; exact beq_self_eq_true _
        have Hk3 := Lib.hid k3
        clear k3
        by_cases k4 : c.m = d.m
        case neg =>
          have fk4 : (c.m == d.m) = false := by simpa using k4
          go_wp2_with fail
          go_meet
          case rel => exact ⟨false, rfl, Iff.intro (fun h => nomatch h) (fun h => absurd h.2.2.2.2.1 k4), rfl⟩
        case pos =>
        have fk4 : (c.m == d.m) = true := by rw [k4]; exact beq_self_eq_true _
        have Hk4 := Lib.hid k4
        clear k4
        by_cases k5 : c.a = d.a
        case neg =>
          have fk5 : qaB c.a d.a = false := by rw [qaB_eq]; exact decide_eq_false k5
          go_wp2_with fail
          go_meet
          case rel => exact ⟨false, rfl, Iff.intro (fun h => nomatch h) (fun h => absurd h.2.2.2.2.2 k5), rfl⟩
        case pos =>
        have fk5 : qaB c.a d.a = true := by rw [qaB_eq]; exact decide_eq_true k5
        have Hk5 := Lib.hid k5
        clear k5
        go_wp2_with fail
        go_meet
        case rel => exact ⟨true, rfl, Iff.intro (fun _ => ⟨Hk0.out, Hk1.out, Hk2.out, Hk3.out, Hk4.out, Hk5.out⟩) (fun _ => rfl), rfl⟩
      case rest =>
      obtain ⟨bq, rfl, h9, rfl⟩ := hcut
      have H9 := Lib.hid h9
      clear h9 hQA
      cases bq
      case false =>
        have HX := Lib.hid (show ¬ c = d from fun e => by have h := H9.out.2 (by subst e; exact ⟨rfl, rfl, rfl, rfl, rfl, rfl⟩); cases h)
        go_wp2_with fail
        go_ret
        exact ⟨⟨false, rfl, Iff.intro (fun h => nomatch h) (fun h => absurd h HX.out)⟩, HQ.out.belowW⟩
      case true =>
      by_cases k0 : c.queue = d.queue
      case neg =>
        have fk0 : (c.queue.toList == d.queue.toList) = false := by rw [strBeq]; exact decide_eq_false k0
        have HX := Lib.hid (show ¬ c = d from fun e => k0 (by rw [e]))
        go_wp2_with fail
        go_ret
        exact ⟨⟨false, rfl, Iff.intro (fun h => nomatch h) (fun h => absurd h HX.out)⟩, HQ.out.belowW⟩
      case pos =>
      have fk0 : (c.queue.toList == d.queue.toList) = true := by rw [k0]; exact beq_self_eq_true _
      have Hk0 := Lib.hid k0
      clear k0
      by_cases k1 : c.body = d.body
      case neg =>
        have fk1 : (c.body.toList == d.body.toList) = false := by rw [strBeq]; exact decide_eq_false k1
        have HX := Lib.hid (show ¬ c = d from fun e => k1 (by rw [e]))
        go_wp2_with fail
        go_ret
        exact ⟨⟨false, rfl, Iff.intro (fun h => nomatch h) (fun h => absurd h HX.out)⟩, HQ.out.belowW⟩
      case pos =>
      have fk1 : (c.body.toList == d.body.toList) = true := by rw [k1]; exact beq_self_eq_true _
      have Hk1 := Lib.hid k1
      clear k1
      by_cases k2 : c.group = d.group
      case neg =>
        have fk2 : (c.group.toList == d.group.toList) = false := by rw [strBeq]; exact decide_eq_false k2
        have HX := Lib.hid (show ¬ c = d from fun e => k2 (by rw [e]))
        go_wp2_with fail
        go_ret
        exact ⟨⟨false, rfl, Iff.intro (fun h => nomatch h) (fun h => absurd h HX.out)⟩, HQ.out.belowW⟩
      case pos =>
      have fk2 : (c.group.toList == d.group.toList) = true := by rw [k2]; exact beq_self_eq_true _
      have Hk2 := Lib.hid k2
      clear k2
      by_cases k3 : c.key = d.key
      case neg =>
        have fk3 : (c.key.toList == d.key.toList) = false := by rw [strBeq]; exact decide_eq_false k3
        have HX := Lib.hid (show ¬ c = d from fun e => k3 (by rw [e]))
        go_wp2_with fail
        go_ret
        exact ⟨⟨false, rfl, Iff.intro (fun h => nomatch h) (fun h => absurd h HX.out)⟩, HQ.out.belowW⟩
      case pos =>
      have fk3 : (c.key.toList == d.key.toList) = true := by rw [k3]; exact beq_self_eq_true _
      have Hk3 := Lib.hid k3
      clear k3
      by_cases k4 : c.receipt = d.receipt
      case neg =>
        have fk4 : (c.receipt.toList == d.receipt.toList) = false := by rw [strBeq]; exact decide_eq_false k4
        have HX := Lib.hid (show ¬ c = d from fun e => k4 (by rw [e]))
        go_wp2_with fail
        go_ret
        exact ⟨⟨false, rfl, Iff.intro (fun h => nomatch h) (fun h => absurd h HX.out)⟩, HQ.out.belowW⟩
      case pos =>
      have fk4 : (c.receipt.toList == d.receipt.toList) = true := by rw [k4]; exact beq_self_eq_true _
      have Hk4 := Lib.hid k4
      clear k4
      have HX := Lib.hid (show c = d from Cm.same (H9.out.1 rfl) ⟨Hk0.out, Hk1.out, Hk2.out, Hk3.out, Hk4.out⟩ HBD.out)
      go_wp2_with fail
      go_ret
      exact ⟨⟨true, rfl, Iff.intro (fun _ => HX.out) (fun _ => rfl)⟩, HQ.out.belowW⟩
end Go.Proofs.Ytidjapjidihbpaa
