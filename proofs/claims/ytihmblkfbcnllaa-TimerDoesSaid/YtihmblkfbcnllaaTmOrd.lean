/- timer.order by its contract. -/
import Derived.Test.YtihmblkfbcnllaaTmMem
import Derived.Test.YtihmblkfbcnllaaPTimerDoesx1
import Derived.Shelf.SlSortCmp.QuietGrown
namespace Go.Proofs.Ytihmblkfbcnllaa
open Go.RowKit Go.Sort Go.Proofs.YtihmblkfbcnllaaW.PrintWords

def cmpI (a b : Int) : Int := if a < b then -1 else if a > b then 1 else 0
def orI (a b : Int) : Int := if a = 0 then b else a
def ordI (a b : It) : Int := orI (cmpI a.2 b.2) (cmpI a.1 b.1)
theorem ordI_lt (a b : It) : ordI a b < 0 ↔ tLt a b := by
  unfold ordI orI cmpI tLt
  repeat' split
  all_goals omega
theorem ordI_le (a b : It) : ordI a b ≤ 0 ↔ ¬ tLt b a := by
  unfold ordI orI cmpI tLt
  repeat' split
  all_goals omega
theorem compare_any (a b : Int) (w : World) : Calls Try.prog 35 #[.int .i64 a, .int .i64 b] w fun e w' => e = .returned (.int .i64 (cmpI a b)) ∧ Drawn0 w w' := by
  refine PTimerDoes.cmp_Compare_int.calls a b (cmpI a b) w ?_
  unfold PTimerDoes.cmp_Compare_int.f PTimerDoes.cmp_isNaN_int.f cmpI
  simp only [bne_self_eq_false, Option.bind_some, Bool.false_eq_true, if_false]
  repeat' split
  all_goals rfl
theorem or_any (A : Option Addr) (c : Nat) (a b : Int) (w : World) (h : (Kd.int .i64).C w A 2 [a, b]) (hc : 2 ≤ c) : Calls Try.prog 34 #[.slice A 2 c] w fun e w' => e = .returned (.int .i64 (orI a b)) ∧ Drawn0 w w' := by
  refine PTimerDoes.cmp_Or_int.calls 3 A c [a, b] _ w h hc ?_
  unfold PTimerDoes.cmp_Or_int.f orI
  simp only [PTimerDoes.cmp_Or_int.l0, List.length_cons, List.length_nil]
  have e0 : rd [a, b] 0 = a := rfl
  have e1 : rd [a, b] 1 = b := rfl
  have w1 : wrap64 (0 + 1) = 1 := IntWalk.wrap64_in _ (by omega)
  have w2 : wrap64 (1 + 1) = 2 := IntWalk.wrap64_in _ (by omega)
  simp only [e0, w1, w2, e1]
  by_cases ha : a = 0
  · by_cases hb : b = 0 <;> simp [ha, hb]
  · simp [ha]
theorem heap_new_at (w : World) (o : Obj) (n : Nat) (hn : n = w.heap.size) : (w.alloc o).heap[n]? = some o := by
  subst hn
  exact heap_alloc_new w o
theorem or_blk (g t : Nat) (a b : Int) (w : World) (hg : w.heap[g]? = some (.cells #[.int .i64 a, .int .i64 b] t (0, 0))) : Calls Try.prog 34 #[.slice (some ⟨g, 0, none⟩) 2 2] w fun e w' => e = .returned (.int .i64 (orI a b)) ∧ Drawn0 w w' :=
  or_any _ _ a b w (C_block hg [a, b] rfl (by simp)) (Nat.le_refl _)
/-- w' is w behind some draws, with some blocks laid behind it. -/
def Gr (w w' : World) : Prop := ∃ q os', w' = grow (w.drewN q) os'
theorem Gr.refl (w : World) : Gr w w := ⟨0, #[], by rw [grow_empty]; rfl⟩
theorem Gr.alloc {w w' : World} (h : Gr w w') (o : Obj) : Gr w (w'.alloc o) := by
  obtain ⟨q, os, rfl⟩ := h
  exact ⟨q, os ++ #[o], by rw [alloc_eq_grow, grow_grow]⟩
theorem Gr.drewN {w w' : World} (h : Gr w w') (n : Nat) : Gr w (w'.drewN n) := by
  obtain ⟨q, os, rfl⟩ := h
  exact ⟨q + n, os, by rw [← World.drewN_drewN]; rfl⟩
theorem Gr.below {w w' : World} (h : Gr w w') : Below w.heap.size w w' := by
  obtain ⟨q, os, rfl⟩ := h
  refine ⟨rfl, rfl, rfl, ?_, fun k hk => ?_⟩
  · show w.heap.size ≤ (w.heap ++ os).size
    simp
  · show (w.heap ++ os)[k]? = w.heap[k]?
    rw [Array.getElem?_append_left hk]
set_option maxHeartbeats 800000 in
theorem order_any (a b : It) (w : World) : Calls Try.prog 30 #[.agg #[.int .i64 a.1, .int .i64 a.2], .agg #[.int .i64 b.1, .int .i64 b.2]] w fun e w' => e = .returned (.int .i64 (ordI a b)) ∧ Gr w w' := by
  go_enter Try.func30, Try.ntmps30
  go_wp2_with fail
  go_region_held3 (fun w' => w'.cell? ⟨w.heap.size, 0, none⟩ = some (.int .i64 a.1) ∧ w'.cell? ⟨w.heap.size, 1, none⟩ = some (.int .i64 a.2) ∧ w'.cell? ⟨w.heap.size + 1, 0, none⟩ = some (.int .i64 b.1) ∧ w'.cell? ⟨w.heap.size + 1, 1, none⟩ = some (.int .i64 b.2)) (go_keep) (first | (go_at_call 35; refine (compare_any _ _ _).mono ?_; rintro e w' ⟨rfl, ⟨nd, rfl⟩⟩) | (go_at_call 34; refine (or_blk _ _ _ _ _ (by refine heap_new_at _ _ _ ?_; simp)).mono ?_; rintro e w' ⟨rfl, ⟨nd2, rfl⟩⟩))
  all_goals
    go_wp2
    go_ret
    exact ⟨rfl, (((((Gr.refl w).alloc _).alloc _).drewN _).alloc _).drewN _⟩
end Go.Proofs.Ytihmblkfbcnllaa
