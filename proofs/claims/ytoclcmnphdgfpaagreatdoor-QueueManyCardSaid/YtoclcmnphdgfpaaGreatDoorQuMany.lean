/- Many messages that are alike: what each call of QueueMany comes to. No program in it. -/
import Derived.Test.YtoclcmnphdgfpaaGreatDoorG5
set_option linter.unusedVariables false
set_option linter.unusedSimpArgs false
namespace Go.Proofs.YtoclcmnphdgfpaaGreatDoor
def manyA : QA := ⟨9, 99, 0, 0, 0, ⟨#[]⟩, false⟩
/-- The message of a number that waits; that is leased. -/
def frM (i : Nat) : Msg := ⟨(i : Int) + 1, 0, 0, 0, 0, false, ⟨#[120]⟩, ⟨#[]⟩⟩
def hdM (i : Nat) : Msg := ⟨(i : Int) + 1, 0, 1, 0, 9, true, ⟨#[120]⟩, ⟨#[]⟩⟩
/-- Numbers i .. n are leased, n .. m wait. -/
def manyQ (i n m : Nat) : Qs := ⟨manyA, 0, (m : Int) + 1, (List.range' i (n - i)).map hdM ++ (List.range' n (m - n)).map frM, []⟩
theorem many_send {m : Nat} (h : m < 1000) : qSend (manyQ 0 0 m) ⟨#[120]⟩ ⟨#[]⟩ ⟨#[]⟩ (-1) = (manyQ 0 0 (m + 1), ((m : Int) + 1, 0)) := by
  have hk : qKnows manyA ⟨#[]⟩ = false := rfl
  have hf : qFull (manyQ 0 0 m) ⟨#[]⟩ = false := by
    unfold qFull
    rw [show (manyQ 0 0 m).a = manyA from rfl, hk]
    simp [manyQ]
    omega
  unfold qSend
  rw [if_neg (by show ¬ qMaySend manyA ⟨#[120]⟩ ⟨#[]⟩ ⟨#[]⟩ (-1) = false; decide), show mget (manyQ 0 0 m).k (⟨#[]⟩ : ByteArray) = none from rfl]
  dsimp only
  rw [hf, if_neg (by decide)]
  unfold qSent
  rw [show (manyQ 0 0 m).a = manyA from rfl, hk]
  simp [manyQ, List.range'_concat, frM, manyA]
theorem many_ready (m : Nat) (i n : Nat) : qReady (manyQ i n m) = (List.range' n (m - n)).map frM := by
  unfold qReady
  rw [show (manyQ i n m).a.fifo = false from rfl]
  simp only [manyQ]
  rw [List.filter_append, List.filter_eq_nil_iff.2, List.nil_append, List.filter_eq_self.2]
  · intro x hx
    obtain ⟨j, _, rfl⟩ := List.mem_map.1 hx
    simp [frM]
  · intro x hx
    obtain ⟨j, _, rfl⟩ := List.mem_map.1 hx
    simp [hdM]
/-- What is told of a number. -/
def tkM (i : Nat) : Tk := ((i : Int) + 1, (1, (receipt ((i : Int) + 1) 1, (⟨#[120]⟩, ⟨#[]⟩))))
theorem range_split {n k m : Nat} (h : n + k ≤ m) : List.range' n (m - n) = List.range' n k ++ List.range' (n + k) (m - (n + k)) := by
  rw [List.range'_append_1]
  congr 1
  omega
theorem many_rcv {n m : Nat} {c : Int} (hc : 1 ≤ c ∧ c ≤ 10) : qRcv (manyQ n n m) c 0 = (manyQ n (n + min c.toNat (m - n)) m, ((List.range' n (min c.toNat (m - n))).map tkM, 0)) := by
  have hm : qMayRecv c 0 = true := decide_eq_true (by omega)
  by_cases hnm : n ≤ m
  · obtain ⟨k, hk⟩ : ∃ k, k = min c.toNat (m - n) := ⟨_, rfl⟩
    rw [← hk]
    have hsp := range_split (n := n) (k := k) (m := m) (by omega)
    have ht : qTook (manyQ n n m) c.toNat = (List.range' n k).map frM := by
      unfold qTook
      rw [many_ready, ← List.map_take]
      congr 1
      by_cases hcm : c.toNat ≤ m - n
      · rw [hsp, show c.toNat = k by omega, List.take_left' (by simp)]
      · rw [List.take_of_length_le (by simp; omega), show m - n = k by omega]
    unfold qRcv
    rw [if_pos hm, if_pos rfl, ht]
    have h1 : qRecv (manyQ n n m) c.toNat (manyQ n n m).a.vis = manyQ n (n + k) m := by
      unfold qRecv
      rw [ht]
      unfold manyQ
      dsimp only
      rw [Nat.sub_self, show n + k - n = k by omega]
      simp only [List.range'_zero, List.map_nil, List.nil_append]
      rw [hsp, List.map_append, List.map_append, List.map_map]
      congr 2
      · apply List.map_congr_left
        intro i hi
        have : ((List.range' n k).map frM).any (fun x => decide (x.id = (frM i).id)) = true := by
          rw [List.any_eq_true]
          exact ⟨frM i, List.mem_map.2 ⟨i, hi, rfl⟩, by simp⟩
        simp only [Function.comp_apply]
        rw [if_pos this]
        rfl
      · rw [List.map_map]
        apply List.map_congr_left
        intro i hi
        have h2 := List.mem_range'_1.1 hi
        have : ((List.range' n k).map frM).any (fun x => decide (x.id = (frM i).id)) = false := by
          rw [List.any_eq_false]
          intro x hx
          obtain ⟨j, hj, rfl⟩ := List.mem_map.1 hx
          have h3 := List.mem_range'_1.1 hj
          simp [frM]
          omega
        simp only [Function.comp_apply]
        rw [if_neg (by rw [this]; decide)]
    rw [h1]
    congr 2
    rw [List.map_map]
    rfl
  · have hk : min c.toNat (m - n) = 0 := by omega
    have ht : qTook (manyQ n n m) c.toNat = [] := by
      unfold qTook
      rw [many_ready, show m - n = 0 by omega]
      simp
    unfold qRcv
    rw [if_pos hm, ht, hk]
    unfold qRecv
    rw [ht]
    simp [manyQ]
theorem many_ack {i n m : Nat} (h : i < n) : qAck (manyQ i n m) (receipt ((i : Int) + 1) 1) = (manyQ (i + 1) n m, ((i : Int) + 1, 0)) := by
  have hr : List.range' i (n - i) = i :: List.range' (i + 1) (n - (i + 1)) := by
    rw [show n - i = (n - (i + 1)) + 1 by omega, List.range'_succ]
  have hb : qBy (manyQ i n m) (receipt ((i : Int) + 1) 1) = some (hdM i) := by
    unfold qBy manyQ
    dsimp only
    rw [hr, List.map_cons, List.cons_append, List.find?_cons_of_pos]
    simp [hdM, Msg.slip]
  unfold qAck
  rw [hb]
  dsimp only
  have hd : qDrop (manyQ i n m) (hdM i).id = manyQ (i + 1) n m := by
    unfold qDrop manyQ
    dsimp only
    rw [hr, List.map_cons, List.cons_append, List.filter_cons_of_neg (by simp), List.filter_eq_self.2]
    intro x hx
    rw [decide_eq_true_iff]
    rcases List.mem_append.1 hx with hx | hx
    · obtain ⟨j, hj, rfl⟩ := List.mem_map.1 hx
      have := List.mem_range'_1.1 hj
      simp [hdM]
      omega
    · obtain ⟨j, hj, rfl⟩ := List.mem_map.1 hx
      have := List.mem_range'_1.1 hj
      simp [hdM, frM]
      omega
  rw [hd]
  rfl
theorem many_get {n k j : Nat} (h : j < k) : ((List.range' n k).map tkM)[j]? = some (tkM (n + j)) := by
  rw [List.getElem?_map, List.getElem?_range' (by omega)]
  simp
theorem many_new : qNew manyA = manyQ 0 0 0 := by simp [qNew, manyQ]
end Go.Proofs.YtoclcmnphdgfpaaGreatDoor
