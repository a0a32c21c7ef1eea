/- Put together: law01.Code: the code of a fault, or of none; errors.As at *api.Errno by its contracts: Go's own text of it is walked. -/
import Derived.Test.YtidjapjidihbpaaDoorK3
import Derived.LaidEql
import Derived.Stop.Asserts
import Derived.RowKitTokens
set_option linter.unusedVariables false
set_option linter.unusedSimpArgs false
set_option linter.unusedVariables false
set_option linter.unusedSimpArgs false
namespace Go.Proofs.YtidjapjidihbpaaDoor
open Go.RowKit Go.Extern.Stop Go.Stop Go.Extern Go.Proofs.YtidjapjidihbpaaDoorW.PrintWords
/-! Closed facts on the model's entries for reflectlite. -/
theorem rf_valueT (t : Addr) (w : World) : (ReflectliteValue.unpack (.iface 94 (.pointer (some t)))).run Tryd.prog w
    = .ok (.agg #[.pointer (some ⟨1, 94, none⟩), .pointer (some ⟨w.heap.size, 0, none⟩), .int .u64 150]) (w.alloc (.cells #[.pointer (some t)] 94)) := by kernel_rfl
theorem rf_typeT (a : Addr) (w : World) : (ReflectliteValue.methodAny (ReflectliteValue.valueError "reflectlite.Value.Type" 0) (fun t _ _ _ => ReflectliteType.toType t) #[.agg #[.pointer (some ⟨1, 94, none⟩), .pointer (some a), .int .u64 150]]).run Tryd.prog w
    = .ok (.iface 154 (.agg #[.pointer (some ⟨1, 94, none⟩)])) w := by kernel_rfl
theorem rf_mKind (h : Value) (w : World) : (Go.method 296 154 (.agg #[h]) "Kind").run Tryd.prog w = .ok (99, h) w := by kernel_rfl
theorem rf_kindT (w : World) : ((ReflectliteType.abiMethod fun t => (fun a : Nat => Value.int IntKind.u8 (a : Int)) <$> Rtype.kind t) #[.pointer (some ⟨1, 94, none⟩)]).run Tryd.prog w = .ok (.int .u8 22) w := by kernel_rfl
theorem rf_kindE (w : World) : ((ReflectliteType.abiMethod fun t => (fun a : Nat => Value.int IntKind.u8 (a : Int)) <$> Rtype.kind t) #[.pointer (some ⟨1, 41, none⟩)]).run Tryd.prog w = .ok (.int .u8 2) w := by kernel_rfl
theorem rlm (z : Sem Value) (f : TypeId → Addr → Nat → Nat → Sem Value) (v : Value) :
    ReflectliteValue.method z f #[v] = (do match ← ReflectliteValue.parts v with | none => z | some (t, a, fl) => f t a fl (fl % 32)) := rfl
theorem rf_partsT (a : Addr) (w : World) : (ReflectliteValue.parts (.agg #[.pointer (some ⟨1, 94, none⟩), .pointer (some a), .int .u64 150])).run Tryd.prog w = .ok (some (94, a, 150)) w := by kernel_rfl
theorem rf_isNilT (a p : Addr) (W : World) (ha : W.cell? a = some (.pointer (some p))) :
    (ReflectliteValue.method (ReflectliteValue.valueError "reflectlite.Value.IsNil" 0) ReflectliteValue.isNil #[.agg #[.pointer (some ⟨1, 94, none⟩), .pointer (some a), .int .u64 150]]).run Tryd.prog W = .ok (.bool false) W := by
  rw [rlm]
  simp only [Sem.run_bind, rf_partsT, Result.andThen]
  simp [ReflectliteValue.isNil, loadVar, isAgg, underlying, Tryd.underlying94, ha, Result.andThen]
theorem rf_mElem (h : Value) (w : World) : (Go.method 296 154 (.agg #[h]) "Elem").run Tryd.prog w = .ok (111, .agg #[h]) w := by kernel_rfl
theorem rf_mImpl (h : Value) (w : World) : (Go.method 296 154 (.agg #[h]) "Implements").run Tryd.prog w = .ok (112, .agg #[h]) w := by kernel_rfl
theorem rf_mAssign (h : Value) (w : World) : (Go.method 296 154 (.agg #[h]) "AssignableTo").run Tryd.prog w = .ok (109, .agg #[h]) w := by kernel_rfl
theorem rf_elemT (w : World) : (ReflectliteType.method ReflectliteType.elem #[.agg #[.pointer (some ⟨1, 94, none⟩)]]).run Tryd.prog w = .ok (.iface 154 (.agg #[.pointer (some ⟨1, 41, none⟩)])) w := by kernel_rfl
theorem rf_implE (w : World) : (ReflectliteType.relation "Implements" ReflectliteType.implements_ #[.agg #[.pointer (some ⟨1, 41, none⟩)], .iface 154 (.agg #[.pointer (some ⟨1, 32, none⟩)])]).run Tryd.prog w = .ok (.bool true) w := by kernel_rfl
theorem rf_typeOfF (v : Value) (w : World) : (ReflectliteType.typeOf #[.iface 121 v]).run Tryd.prog w = .ok (.iface 154 (.agg #[.pointer (some ⟨1, 121, none⟩)])) w := by kernel_rfl
theorem rf_typeOfE (v : Value) (w : World) : (ReflectliteType.typeOf #[.iface 41 v]).run Tryd.prog w = .ok (.iface 154 (.agg #[.pointer (some ⟨1, 41, none⟩)])) w := by kernel_rfl
theorem rf_assignF (w : World) : (ReflectliteType.relation "AssignableTo" ReflectliteType.assignableTo #[.agg #[.pointer (some ⟨1, 121, none⟩)], .iface 154 (.agg #[.pointer (some ⟨1, 41, none⟩)])]).run Tryd.prog w = .ok (.bool false) w := by kernel_rfl
theorem rf_assignE (w : World) : (ReflectliteType.relation "AssignableTo" ReflectliteType.assignableTo #[.agg #[.pointer (some ⟨1, 41, none⟩)], .iface 154 (.agg #[.pointer (some ⟨1, 41, none⟩)])]).run Tryd.prog w = .ok (.bool true) w := by kernel_rfl
theorem rf_valueE (c : Int) (w : World) : (ReflectliteValue.unpack (.iface 41 (.int .i64 c))).run Tryd.prog w
    = .ok (.agg #[.pointer (some ⟨1, 41, none⟩), .pointer (some ⟨w.heap.size, 0, none⟩), .int .u64 130]) (w.alloc (.cells #[.int .i64 c] 41)) := by kernel_rfl
theorem rf_elemOfT (w : World) : (Rtype.elem? 94).run Tryd.prog w = .ok (some 41) w := by kernel_rfl
theorem rf_mkE (p : Addr) (w : World) : (ReflectliteValue.mk 41 p ReflectliteValue.flagAddr).run Tryd.prog w = .ok (.agg #[.pointer (some ⟨1, 41, none⟩), .pointer (some p), .int .u64 386]) w := by kernel_rfl
theorem rf_elemV (a p : Addr) (W : World) (ha : W.cell? a = some (.pointer (some p))) :
    (ReflectliteValue.method (ReflectliteValue.valueError "reflectlite.Value.Elem" 0) ReflectliteValue.elem #[.agg #[.pointer (some ⟨1, 94, none⟩), .pointer (some a), .int .u64 150]]).run Tryd.prog W
      = .ok (.agg #[.pointer (some ⟨1, 41, none⟩), .pointer (some p), .int .u64 386]) W := by
  rw [rlm]
  simp only [Sem.run_bind, rf_partsT, Result.andThen]
  simp [ReflectliteValue.elem, loadVar, isAgg, underlying, Tryd.underlying94, ha, Result.andThen, rf_elemOfT, rf_mkE]
theorem rls (v x : Value) : ReflectliteValue.set #[v, x] = (do
    let (some (dst, a, fl), some (src, b, _)) := (← ReflectliteValue.parts v, ← ReflectliteValue.parts x)
      | unsupported (.noEntry "extern/(internal/reflectlite.Value).Set.zeroValue")
    if fl / ReflectliteValue.flagAddr % 2 == 0 then unsupported (.noEntry "extern/(internal/reflectlite.Value).Set.unaddressable")
    let val ← loadVar src b
    if ← Rtype.directlyAssignable dst src then storeVar dst a val
    else if ← Rtype.implements dst src then
      if (← Rtype.kind src) == 20 then
        match val with
        | .nilIface => unsupported (.noEntry "extern/reflectlite: a nil value of one interface type handed on as a value of another")
        | _ => storeVar dst a val
      else storeVar dst a (.iface src val)
    else panicString ("reflectlite.Set: value of type " ++ (← Rtype.spelt src) ++ " is not assignable to type " ++ (← Rtype.spelt dst))
    pure (.tuple #[])) := rfl
theorem rf_partsEa (a : Addr) (w : World) : (ReflectliteValue.parts (.agg #[.pointer (some ⟨1, 41, none⟩), .pointer (some a), .int .u64 386])).run Tryd.prog w = .ok (some (41, a, 386)) w := by kernel_rfl
theorem rf_partsE (a : Addr) (w : World) : (ReflectliteValue.parts (.agg #[.pointer (some ⟨1, 41, none⟩), .pointer (some a), .int .u64 130])).run Tryd.prog w = .ok (some (41, a, 130)) w := by kernel_rfl
theorem rf_direct (w : World) : (Rtype.directlyAssignable 41 41).run Tryd.prog w = .ok true w := by kernel_rfl
theorem rf_size (w : World) : (sizeOf 41).run Tryd.prog w = .ok 1 w := by kernel_rfl
theorem rf_set (ta b : Addr) (c : Int) (old : Value) (W : World) (hb : W.cell? b = some (.int .i64 c)) (ht : W.cell? ta = some old) (hf : W.frozen? ta = false) :
    (ReflectliteValue.set #[.agg #[.pointer (some ⟨1, 41, none⟩), .pointer (some ta), .int .u64 386], .agg #[.pointer (some ⟨1, 41, none⟩), .pointer (some b), .int .u64 130]]).run Tryd.prog W
      = .ok (.tuple #[]) (W.setCell ta (.int .i64 c)) := by
  rw [rls]
  simp only [Sem.run_bind, rf_partsEa, rf_partsE, Result.andThen]
  simp [ReflectliteValue.flagAddr, loadVar, isAgg, underlying, Tryd.underlying41, hb, Result.andThen, rf_direct, storeVar, Value.cells, storeCells, Addr.add]
  rw [run_store Tryd.prog W ta _ _ (by rfl)]
  simp [ht, hf]
theorem rf_noAs (v : Value) (xT : TypeId) (w : World) : (Instr.typeAssert (.iface 121 v) xT 159 true).run Tryd.prog w = .ok (.tuple #[.nilIface, .bool false]) w := run_typeAssert_lacksB Tryd.underlying159 (by kernel_rfl) (by kernel_rfl) v xT w
theorem rf_unwraps (v : Value) (xT : TypeId) (w : World) : (Instr.typeAssert (.iface 121 v) xT 162 true).run Tryd.prog w = .ok (.tuple #[.iface 121 v, .bool true]) w := run_typeAssert_hasB Tryd.underlying162 (by kernel_rfl) v xT w
theorem rf_mUnwrap (h : Value) (w : World) : (Go.method 296 121 h "Unwrap").run Tryd.prog w = .ok (104, h) w := by kernel_rfl
theorem below_cell {w w' : World} {a : Addr} {v : Value} (hB : Below w.heap.size w w') (h : w.cell? a = some v) : w'.cell? a = some v := cell_later hB h
set_option maxHeartbeats 4000000 in
set_option maxRecDepth 100000 in
theorem as_fault (fb nb : Nat) (at_ code : Int) (old : Value) (t : Nat) (w : World) (hg : w.cell? ⟨0, 0, none⟩ = some (.iface 154 (.agg #[.pointer (some ⟨1, 32, none⟩)]))) (hfb : w.heap[fb]? = some (fault at_ code)) (hnb : w.heap[nb]? = some (.cells #[old] t (0, 0))) :
    Calls Tryd.prog 46 #[.iface 121 (.pointer (some ⟨fb, 0, none⟩)), .iface 94 (.pointer (some ⟨nb, 0, none⟩))] w fun ev w' => ev = .returned (.bool true) ∧ w' = ((((w.alloc (.cells #[.pointer (some ⟨nb, 0, none⟩)] 94)).alloc (.cells #[.pointer (some ⟨1, 94, none⟩), .pointer (some ⟨w.heap.size, 0, none⟩), .int .u64 150] 132)).alloc (.cells #[.pointer (some ⟨1, 94, none⟩), .pointer (some ⟨w.heap.size, 0, none⟩), .int .u64 150] 132)).alloc (.cells #[.int .i64 code] 41)).setCell ⟨nb, 0, none⟩ (.int .i64 code) := by
  have h6 := @run_callFunc_extern Tryd.prog 71 _ (fun args => ReflectliteValue.unpack (args.getD 0 (.tuple #[]))) Tryd.func71 (by kernel_rfl) (by kernel_rfl) (by kernel_rfl) (by kernel_rfl)
  have h7 := @run_callFunc_extern Tryd.prog 72 _ (ReflectliteValue.methodAny (ReflectliteValue.valueError "reflectlite.Value.Type" 0) (fun t _ _ _ => ReflectliteType.toType t)) Tryd.func72 (by kernel_rfl) (by kernel_rfl) (by kernel_rfl) (by kernel_rfl)
  have h8 := @run_callFunc_extern Tryd.prog 73 _ (ReflectliteValue.method (ReflectliteValue.valueError "reflectlite.Value.IsNil" 0) ReflectliteValue.isNil) Tryd.func73 (by kernel_rfl) (by kernel_rfl) (by kernel_rfl) (by kernel_rfl)
  have h27 := @run_callFunc_extern Tryd.prog 99 _ (ReflectliteType.abiMethod fun t => do pure (.int .u8 (← Rtype.kind t))) Tryd.func99 (by kernel_rfl) (by kernel_rfl) (by kernel_rfl) (by kernel_rfl)
  have h37 := @run_callFunc_extern Tryd.prog 111 _ (ReflectliteType.method ReflectliteType.elem) Tryd.func111 (by kernel_rfl) (by kernel_rfl) (by kernel_rfl) (by kernel_rfl)
  have h38 := @run_callFunc_extern Tryd.prog 112 _ (ReflectliteType.relation "Implements" ReflectliteType.implements_) Tryd.func112 (by kernel_rfl) (by kernel_rfl) (by kernel_rfl) (by kernel_rfl)
  have h10 := @run_callFunc_extern Tryd.prog 82 _ ReflectliteType.typeOf Tryd.func82 (by kernel_rfl) (by kernel_rfl) (by kernel_rfl) (by kernel_rfl)
  have h35 := @run_callFunc_extern Tryd.prog 109 _ (ReflectliteType.relation "AssignableTo" ReflectliteType.assignableTo) Tryd.func109 (by kernel_rfl) (by kernel_rfl) (by kernel_rfl) (by kernel_rfl)
  have h11 := @run_callFunc_extern Tryd.prog 83 _ (ReflectliteValue.method (ReflectliteValue.valueError "reflectlite.Value.Elem" 0) ReflectliteValue.elem) Tryd.func83 (by kernel_rfl) (by kernel_rfl) (by kernel_rfl) (by kernel_rfl)
  have h12 := @run_callFunc_extern Tryd.prog 84 _ ReflectliteValue.set Tryd.func84 (by kernel_rfl) (by kernel_rfl) (by kernel_rfl) (by kernel_rfl)
  have tO := rf_typeOfF
  have tE := rf_typeOfE
  have mA := rf_mAssign
  have aF := rf_assignF
  have aE := rf_assignE
  have vE := rf_valueE
  have f6 := rf_valueT
  have f7 := rf_typeT
  have mK := rf_mKind
  have mE := rf_mElem
  have mI := rf_mImpl
  have k27 := rf_kindT
  have k25 := rf_kindE
  have e27 := rf_elemT
  have i25 := rf_implE
  have nAs := rf_noAs
  have uw := rf_unwraps
  have mU := rf_mUnwrap
  have hsz : (w.alloc (.cells #[.pointer (some ⟨nb, 0, none⟩)] 94)).heap.size = w.heap.size + 1 := by simp
  have HPA := ((Hp.nil w).alloc (.cells #[.pointer (some ⟨nb, 0, none⟩)] 94)).alloc (.cells #[.pointer (some ⟨1, 94, none⟩), .pointer (some ⟨w.heap.size, 0, none⟩), .int .u64 150] 132)
  have HPB := HPA.alloc (.cells #[.pointer (some ⟨1, 94, none⟩), .pointer (some ⟨w.heap.size, 0, none⟩), .int .u64 150] 132)
  have HPC := HPB.alloc (.cells #[.int .i64 code] 41)
  have n8 := rf_isNilT ⟨w.heap.size, 0, none⟩ ⟨nb, 0, none⟩ _ (blk_cell HPA.blk1 0)
  have hg2 := below_cell HPA.belowW hg
  have el := rf_elemV ⟨w.heap.size, 0, none⟩ ⟨nb, 0, none⟩ _ (blk_cell HPB.blk2 0)
  have c2 := below_cell HPB.belowW (show w.cell? ⟨fb, 1, none⟩ = some (.iface 41 (.int .i64 code)) from blk_cell hfb 1)
  have hlt := (Array.getElem?_eq_some_iff.1 hnb).1
  have hnc := (HPC.belowW.block nb hlt).trans hnb
  have st := rf_set ⟨nb, 0, none⟩ _ code old _ (blk_cell HPC.blk0 0) (blk_cell hnc 0) (blk_frozen hnc 0)
  rw [show (((w.alloc (.cells #[.pointer (some ⟨nb, 0, none⟩)] 94)).alloc (.cells #[.pointer (some ⟨1, 94, none⟩), .pointer (some ⟨w.heap.size, 0, none⟩), .int .u64 150] 132)).alloc (.cells #[.pointer (some ⟨1, 94, none⟩), .pointer (some ⟨w.heap.size, 0, none⟩), .int .u64 150] 132)).heap.size = w.heap.size + 1 + 1 + 1 from by simp] at st
  clear hnc hlt
  go_enter Tryd.func46, Tryd.ntmps46
  go_wp2
  refine wp_loop_rounds 2 ?_
  rw [rounds_succ]
  go_wp2
  rw [rounds_succ]
  go_wp2
  go_ret
  exact ⟨rfl, rfl⟩
set_option maxHeartbeats 4000000 in
set_option maxRecDepth 100000 in
/-- The code of no error; of a fault. -/
theorem code_nil (w : World) : Calls Tryd.prog 14 #[.nilIface] w fun e w' => e = .returned (.int .i64 0) ∧ Below w.heap.size w w' := by
  go_enter Tryd.func14, Tryd.ntmps14
  go_wp2_with fail
  go_ret
  exact ⟨rfl, below_alloc (Below.refl _ _) _⟩
set_option maxHeartbeats 4000000 in
set_option maxRecDepth 100000 in
theorem code_fault (fb : Nat) (at_ code : Int) (w : World) (hg : w.cell? ⟨0, 0, none⟩ = some (.iface 154 (.agg #[.pointer (some ⟨1, 32, none⟩)]))) (hfb : w.heap[fb]? = some (fault at_ code)) :
    Calls Tryd.prog 14 #[.iface 121 (.pointer (some ⟨fb, 0, none⟩))] w fun e w' => e = .returned (.int .i64 code) ∧ Below w.heap.size w w' := by
  have HP0 := Lib.hid ((Hp.nil w).alloc (.cells #[.int .i64 0] 41))
  have HA := Lib.hid (as_fault fb w.heap.size at_ code (.int .i64 0) 41 _ (below_cell HP0.out.belowW hg) ((HP0.out.belowW.block fb (Array.getElem?_eq_some_iff.1 hfb).1).trans hfb) HP0.out.blk0)
  have HP4 := Lib.hid ((((HP0.out.alloc (.cells #[.pointer (some ⟨w.heap.size, 0, none⟩)] 94)).alloc (.cells #[.pointer (some ⟨1, 94, none⟩), .pointer (some ⟨(w.alloc (.cells #[.int .i64 0] 41)).heap.size, 0, none⟩), .int .u64 150] 132)).alloc (.cells #[.pointer (some ⟨1, 94, none⟩), .pointer (some ⟨(w.alloc (.cells #[.int .i64 0] 41)).heap.size, 0, none⟩), .int .u64 150] 132)).alloc (.cells #[.int .i64 code] 41))
  have HP5 := Lib.hid ((HP4.out.perm (List.perm_middle (l₁ := [_, _, _, _]))).setBlk 0 (.int .i64 code))
  clear hg hfb
  go_enter Tryd.func14, Tryd.ntmps14
  go_wp2_with fail
  refine Calls.mono HA.out ?_
  rintro e w1 ⟨rfl, hw1⟩
  rw [← hw1] at HP5
  have hc := blk_cell HP5.out.blk0 0
  simp only [List.setIfInBounds_toArray, List.set_cons_zero, List.getElem?_toArray, List.getElem?_cons_zero] at hc
  clear hw1
  go_wp2_with fail
  go_ret
  exact ⟨rfl, HP5.out.belowW⟩
/-- The code of what an error is. -/
theorem code_any {v : Value} {no : Int} {w : World} (hg : w.cell? ⟨0, 0, none⟩ = some (.iface 154 (.agg #[.pointer (some ⟨1, 32, none⟩)]))) (h : FaultV w v no) :
    Calls Tryd.prog 14 #[v] w fun e w' => e = .returned (.int .i64 no) ∧ Below w.heap.size w w' := by
  rcases h with ⟨rfl, rfl⟩ | ⟨_, fb, at_, rfl, hfb⟩
  · exact code_nil w
  · exact code_fault fb at_ no w hg hfb
end Go.Proofs.YtidjapjidihbpaaDoor
