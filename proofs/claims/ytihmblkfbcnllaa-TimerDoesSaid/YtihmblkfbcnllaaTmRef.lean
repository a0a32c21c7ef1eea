/- daisychainref05: Drop, Set, Due by their contracts. -/
import Derived.Test.YtihmblkfbcnllaaTmDue
namespace Go.Proofs.Ytihmblkfbcnllaa
open Go.RowKit Go.Proofs.YtihmblkfbcnllaaW.PrintWords

def toS (x : It) : PTimerDoes.S37 := ⟨x.1, x.2⟩
def ofS (x : PTimerDoes.S37) : It := (x.f0, x.f1)
theorem of_to (x : It) : ofS (toS x) = x := rfl
theorem map_of_to (xs : List It) : (xs.map toS).map ofS = xs := by rw [List.map_map]; simp [Function.comp_def, of_to]
theorem map_to_inj {xs ys : List It} (h : xs.map toS = ys.map toS) : xs = ys := by
  have := congrArg (List.map ofS) h
  rwa [map_of_to, map_of_to] at this
theorem C_toS {w : World} {A : Option Addr} {n : Nat} {xs : List It} (h : KIt.C w A n xs) : PTimerDoes.k37.C w A n (xs.map toS) := by
  obtain ⟨h1, h2, h3⟩ := h
  refine ⟨by rw [List.length_map]; exact h1, h2, fun hp => ?_⟩
  obtain ⟨ad, hA, h4⟩ := h3 hp
  refine ⟨ad, hA, fun j p hj => ?_⟩
  rw [List.getElem?_map] at hj
  obtain ⟨x, hx, rfl⟩ := Option.map_eq_some_iff.1 hj
  obtain ⟨c, g1, g2, g3⟩ := h4 j x hx
  exact ⟨c, g1, g2, g3⟩
theorem R_ofS {e : Nat} {w : World} {base : Nat} {ok : Nat → Prop} {v : Value} {ys : List PTimerDoes.S37} (h : PTimerDoes.k37.R e w base ok v ys) : KIt.R e w base ok v (ys.map ofS) := by
  obtain ⟨h0, inner, ho, hr⟩ := h
  refine ⟨h0, inner, by rw [List.length_map]; exact ho, ?_⟩
  obtain ⟨r1, r2⟩ := hr
  refine ⟨by rw [List.length_map]; exact r1, fun j p hj => ?_⟩
  rw [List.getElem?_map] at hj
  obtain ⟨y, hy, rfl⟩ := Option.map_eq_some_iff.1 hj
  exact r2 j y hy
theorem rd_S {xs : List It} {i : Nat} {x : It} (h : xs[i]? = some x) : PTimerDoes.rd_T37 (xs.map toS) (i : Int) = toS x := by
  unfold PTimerDoes.rd_T37
  rw [Int.toNat_natCast, List.getD_eq_getElem?_getD, List.getElem?_map, h]
  rfl
theorem w64 (i : Nat) (h : i < 1000000) : wrap64 ((i : Int) + 1) = ((i + 1 : Nat) : Int) := by rw [IntWalk.wrap64_in _ (by omega)]; omega

theorem drop_loop (xs : List It) (id : Int) (hl : xs.length ≤ 100000) : ∀ (m k i : Nat) (out : List It), i + m = xs.length → m < k → out.length ≤ i →
    PTimerDoes.daisychainref05_Drop.l0 k (xs.map toS) id (out.map toS) (i : Int) = some ((out ++ tDrop (xs.drop i) id).map toS) := by
  intro m
  induction m with
  | zero =>
    intro k i out hi hk ho
    obtain ⟨k, rfl⟩ : ∃ q, k = q + 1 := ⟨k - 1, by omega⟩
    rw [PTimerDoes.daisychainref05_Drop.l0, if_neg (by rw [List.length_map]; omega), List.drop_eq_nil_of_le (by omega)]
    simp [tDrop]
  | succ m ih =>
    intro k i out hi hk ho
    obtain ⟨k, rfl⟩ : ∃ q, k = q + 1 := ⟨k - 1, by omega⟩
    have hx : xs[i]? = some (xs[i]'(by omega)) := List.getElem?_eq_getElem (by omega)
    generalize xs[i]'(by omega) = x at hx
    have hd : xs.drop i = x :: xs.drop (i + 1) := by
      rw [List.drop_eq_getElem_cons (by omega)]
      rw [(List.getElem?_eq_some_iff.1 hx).2]
    rw [PTimerDoes.daisychainref05_Drop.l0, if_pos (by rw [List.length_map]; omega), if_pos (by omega), rd_S hx, w64 i (by omega), hd]
    by_cases h : x.1 = id
    · rw [if_pos (by exact h)]
      have e : tDrop (x :: xs.drop (i + 1)) id = tDrop (xs.drop (i + 1)) id := by unfold tDrop; simp [h]
      rw [e]
      exact ih k (i + 1) out (by omega) (by omega) (by omega)
    · rw [if_neg (by exact h), if_pos (by rw [List.length_map]; omega)]
      have e : tDrop (x :: xs.drop (i + 1)) id = x :: tDrop (xs.drop (i + 1)) id := by unfold tDrop; simp [h]
      have e2 : out.map toS ++ [(⟨(toS x).f0, (toS x).f1⟩ : PTimerDoes.S37)] = (out ++ [x]).map toS := by rw [List.map_append]; rfl
      rw [e, e2, ih k (i + 1) (out ++ [x]) (by omega) (by omega) (by rw [List.length_append, List.length_singleton]; omega)]
      simp
theorem set_loop_done (xs : List It) (id t : Int) (hl : xs.length ≤ 100000) : ∀ (m k i : Nat) (out : List It), i + m = xs.length → m < k → out.length ≤ i + 1 →
    PTimerDoes.daisychainref05_Set.l0 k (xs.map toS) id t (out.map toS) true (i : Int) = some ((out ++ xs.drop i).map toS) := by
  intro m
  induction m with
  | zero =>
    intro k i out hi hk ho
    obtain ⟨k, rfl⟩ : ∃ q, k = q + 1 := ⟨k - 1, by omega⟩
    rw [PTimerDoes.daisychainref05_Set.l0, if_neg (by rw [List.length_map]; omega), List.drop_eq_nil_of_le (by omega)]
    simp
  | succ m ih =>
    intro k i out hi hk ho
    obtain ⟨k, rfl⟩ : ∃ q, k = q + 1 := ⟨k - 1, by omega⟩
    have hx : xs[i]? = some (xs[i]'(by omega)) := List.getElem?_eq_getElem (by omega)
    generalize xs[i]'(by omega) = x at hx
    have hd : xs.drop i = x :: xs.drop (i + 1) := by
      rw [List.drop_eq_getElem_cons (by omega)]
      rw [(List.getElem?_eq_some_iff.1 hx).2]
    rw [PTimerDoes.daisychainref05_Set.l0, if_pos (by rw [List.length_map]; omega), if_pos rfl, if_pos (by omega), rd_S hx, w64 i (by omega), hd, if_pos (by rw [List.length_map]; omega)]
    have e2 : out.map toS ++ [(⟨(toS x).f0, (toS x).f1⟩ : PTimerDoes.S37)] = (out ++ [x]).map toS := by rw [List.map_append]; rfl
    rw [e2, ih k (i + 1) (out ++ [x]) (by omega) (by omega) (by rw [List.length_append, List.length_singleton]; omega)]
    simp
theorem ahead_f (a b : It) : PTimerDoes.daisychainref05_ahead.f a.1 a.2 b.1 b.2 = some (decide (tLt a b)) := by
  unfold PTimerDoes.daisychainref05_ahead.f tLt
  by_cases h1 : a.2 < b.2
  · simp [h1]
  · by_cases h2 : a.2 = b.2
    · simp [h2]
    · simp [h1, h2]
theorem set_loop (xs : List It) (id t : Int) (hl : xs.length ≤ 100000) : ∀ (m k i : Nat) (out : List It), i + m = xs.length → m < k → out.length ≤ i →
    PTimerDoes.daisychainref05_Set.l0 k (xs.map toS) id t (out.map toS) false (i : Int) = some ((out ++ tIns (xs.drop i) (id, t)).map toS) := by
  intro m
  induction m with
  | zero =>
    intro k i out hi hk ho
    obtain ⟨k, rfl⟩ : ∃ q, k = q + 1 := ⟨k - 1, by omega⟩
    rw [PTimerDoes.daisychainref05_Set.l0, if_neg (by rw [List.length_map]; omega), List.drop_eq_nil_of_le (by omega), tIns_nil]
    rw [if_neg (by decide), if_pos (by rw [List.length_map]; omega), List.map_append]
    rfl
  | succ m ih =>
    intro k i out hi hk ho
    obtain ⟨k, rfl⟩ : ∃ q, k = q + 1 := ⟨k - 1, by omega⟩
    have hx : xs[i]? = some (xs[i]'(by omega)) := List.getElem?_eq_getElem (by omega)
    generalize xs[i]'(by omega) = x at hx
    have hd : xs.drop i = x :: xs.drop (i + 1) := by
      rw [List.drop_eq_getElem_cons (by omega)]
      rw [(List.getElem?_eq_some_iff.1 hx).2]
    have ha := ahead_f (id, t) x
    rw [PTimerDoes.daisychainref05_Set.l0, if_pos (by rw [List.length_map]; omega), if_neg (by decide), if_pos (by omega), rd_S hx, w64 i (by omega), hd, tIns_cons]
    have ha2 : PTimerDoes.daisychainref05_ahead.f id t (toS x).f0 (toS x).f1 = some (decide (tLt (id, t) x)) := ha
    rw [ha2, Option.bind_some]
    have e2 : ∀ o : List It, o.map toS ++ [(⟨(toS x).f0, (toS x).f1⟩ : PTimerDoes.S37)] = (o ++ [x]).map toS := fun o => by rw [List.map_append]; rfl
    by_cases h : tLt (id, t) x
    · rw [if_pos (by simpa using h), if_pos h, if_pos (by rw [List.length_map]; omega), Option.bind_some, if_pos (by simp; omega)]
      have e3 : out.map toS ++ [(⟨id, t⟩ : PTimerDoes.S37)] = (out ++ [(id, t)]).map toS := by rw [List.map_append]; rfl
      rw [e3, e2, set_loop_done xs id t hl m k (i + 1) _ (by omega) (by omega) (by simp; omega)]
      simp
    · rw [if_neg (by simpa using h), if_neg h, if_pos (by rw [List.length_map]; omega), e2, ih k (i + 1) (out ++ [x]) (by omega) (by omega) (by simp; omega)]
      simp
theorem refDrop_any (A : Option Addr) (n c : Nat) (xs : List It) (id : Int) (w : World) (hC : KIt.C w A n xs) (hc : n ≤ c) (hl : n ≤ 100000) :
    Calls Try.prog 12 #[.slice A n c, .int .i64 id] w fun e w' => ∃ v, e = .returned v ∧ KIt.R 37 w' w.heap.size (fun _ => True) v (tDrop xs id) ∧ Below w.heap.size w w' := by
  have hn := Kd.C_len hC
  subst hn
  have hC' := C_toS hC
  have e : (xs.map toS).length = xs.length := by simp
  have := PTimerDoes.daisychainref05_Drop.calls (xs.length + 1) A c (xs.map toS) id ((tDrop xs id).map toS) w (by rw [e]; exact hC') (by rw [e]; exact hc) (by
    unfold PTimerDoes.daisychainref05_Drop.f
    have := drop_loop xs id hl xs.length (xs.length + 1) 0 [] (by omega) (by omega) (by simp)
    simpa using this)
  rw [e] at this
  refine this.mono ?_
  rintro e' w' ⟨v, rfl, hR, hB⟩
  have := R_ofS hR
  rw [map_of_to] at this
  exact ⟨v, rfl, this, hB⟩
theorem refSet_any (A : Option Addr) (n c : Nat) (xs : List It) (id t : Int) (w : World) (hC : KIt.C w A n xs) (hc : n ≤ c) (hl : n ≤ 100000) :
    Calls Try.prog 14 #[.slice A n c, .int .i64 id, .int .i64 t] w fun e w' => ∃ v, e = .returned v ∧ KIt.R 37 w' w.heap.size (fun _ => True) v (tSet xs id t) ∧ Below w.heap.size w w' := by
  have hn := Kd.C_len hC
  subst hn
  have hC' := C_toS hC
  have e : (xs.map toS).length = xs.length := by simp
  have := PTimerDoes.daisychainref05_Set.calls (xs.length + 1) A c (xs.map toS) id t ((tSet xs id t).map toS) w (by rw [e]; exact hC') (by rw [e]; exact hc) (by
    unfold PTimerDoes.daisychainref05_Set.f PTimerDoes.daisychainref05_Drop.f
    have h1 := drop_loop xs id hl xs.length (xs.length + 1) 0 [] (by omega) (by omega) (by simp)
    have h1 : PTimerDoes.daisychainref05_Drop.l0 (xs.length + 1) (xs.map toS) id [] 0 = some ((tDrop xs id).map toS) := by simpa using h1
    rw [h1, Option.bind_some]
    have hdl : (tDrop xs id).length ≤ xs.length := List.length_filter_le _ _
    have h2 := set_loop (tDrop xs id) id t (by omega) (tDrop xs id).length (xs.length + 1) 0 [] (by omega) (by omega) (by simp)
    simpa [tSet] using h2)
  rw [e] at this
  refine this.mono ?_
  rintro e' w' ⟨v, rfl, hR, hB⟩
  have := R_ofS hR
  rw [map_of_to] at this
  exact ⟨v, rfl, this, hB⟩
end Go.Proofs.Ytihmblkfbcnllaa
