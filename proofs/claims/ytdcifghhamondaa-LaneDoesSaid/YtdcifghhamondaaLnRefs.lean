/- daisychainref06: Add, Drop, Of, Heads by their printed contracts. -/
import Derived.Test.YtdcifghhamondaaLnRef
import Derived.Test.YtdcifghhamondaaLnAdd
import Derived.Test.YtdcifghhamondaaPickRef
namespace Go.Proofs.Ytdcifghhamondaa
open Go.RowKit Go.Proofs.YtdcifghhamondaaW.PrintWords

def toS (x : Th) : PLaneDoes.S38 := ⟨x.1, x.2⟩
def ofS (x : PLaneDoes.S38) : Th := (x.f0, x.f1)
theorem map_of_to (xs : List Th) : (xs.map toS).map ofS = xs := by rw [List.map_map]; simp [Function.comp_def, ofS, toS]
theorem C_toS {w : World} {A : Option Addr} {n : Nat} {xs : List Th} (h : KTh.C w A n xs) : PLaneDoes.k38.C w A n (xs.map toS) := by
  obtain ⟨h1, h2, h3⟩ := h
  refine ⟨by rw [List.length_map]; exact h1, h2, fun hp => ?_⟩
  obtain ⟨ad, hA, h4⟩ := h3 hp
  refine ⟨ad, hA, fun j p hj => ?_⟩
  rw [List.getElem?_map] at hj
  obtain ⟨x, hx, rfl⟩ := Option.map_eq_some_iff.1 hj
  obtain ⟨c, g1, g2, g3⟩ := h4 j x hx
  exact ⟨c, g1, g2, g3⟩
theorem R_ofS {e : Nat} {w : World} {base : Nat} {ok : Nat → Prop} {v : Value} {ys : List PLaneDoes.S38} (h : PLaneDoes.k38.R e w base ok v ys) : KTh.R e w base ok v (ys.map ofS) := by
  obtain ⟨h0, inner, ho, hr⟩ := h
  refine ⟨h0, inner, by rw [List.length_map]; exact ho, ?_⟩
  obtain ⟨r1, r2⟩ := hr
  refine ⟨by rw [List.length_map]; exact r1, fun j p hj => ?_⟩
  rw [List.getElem?_map] at hj
  obtain ⟨y, hy, rfl⟩ := Option.map_eq_some_iff.1 hj
  exact r2 j y hy
theorem R_toS {e : Nat} {w : World} {base : Nat} {ok : Nat → Prop} {v : Value} {xs : List Th} (h : KTh.R e w base ok v xs) : PLaneDoes.k38.R e w base ok v (xs.map toS) := by
  obtain ⟨h0, inner, ho, hr⟩ := h
  refine ⟨h0, inner, by rw [List.length_map]; exact ho, ?_⟩
  obtain ⟨r1, r2⟩ := hr
  refine ⟨by rw [List.length_map]; exact r1, fun j p hj => ?_⟩
  rw [List.getElem?_map] at hj
  obtain ⟨y, hy, rfl⟩ := Option.map_eq_some_iff.1 hj
  exact r2 j y hy
theorem rd_S {xs : List Th} {i : Nat} {x : Th} (h : xs[i]? = some x) : PLaneDoes.rd_T38 (xs.map toS) (i : Int) = toS x := by
  unfold PLaneDoes.rd_T38
  rw [Int.toNat_natCast, List.getD_eq_getElem?_getD, List.getElem?_map, h]
  rfl
theorem w64 (i : Nat) (h : i < 1000000) : wrap64 ((i : Int) + 1) = ((i + 1 : Nat) : Int) := by rw [IntWalk.wrap64_in _ (by omega)]; omega
theorem drop_cons' {α : Type} {xs : List α} {i : Nat} {x : α} (h : xs[i]? = some x) : xs.drop i = x :: xs.drop (i + 1) := by
  obtain ⟨hi, e⟩ := List.getElem?_eq_some_iff.1 h
  rw [List.drop_eq_getElem_cons hi, e]

def thDrop (r : List Th) (id : Int) : List Th := r.filter (fun p => decide (p.2 ≠ id))
def thHas (r : List Th) (id : Int) : Bool := r.any (fun p => decide (p.2 = id))
def thAdd (r : List Th) (g : ByteArray) (id : Int) : List Th := if thHas r id then r else r ++ [(g, id)]
def thOf (r : List Th) (g : ByteArray) : List Int := (r.filter (fun p => decide (p.1 = g))).map (·.2)
def thH : List ByteArray → List Th → List Int
  | _, [] => []
  | seen, p :: r => if seen.any (fun q => decide (q = p.1)) then thH (seen ++ [p.1]) r else p.2 :: thH (seen ++ [p.1]) r
theorem th_drop (s : List En) (id : Int) : th (lDrop s id) = thDrop (th s) id := by
  unfold th lDrop thDrop
  rw [List.filter_map]
  rfl
theorem th_has (s : List En) (id : Int) : thHas (th s) id = hasEn s id := by
  unfold th thHas hasEn
  rw [List.any_map]
  rfl
theorem th_add (s : List En) (g : ByteArray) (id t : Int) : th (lAdd s g id t) = thAdd (th s) g id := by
  unfold lAdd thAdd
  rw [th_has]
  by_cases h : hasEn s id
  · rw [if_pos h, if_pos h]
  · rw [if_neg h, if_neg h]
    unfold th
    rw [List.map_append]
    rfl
theorem th_of (s : List En) (g : ByteArray) : thOf (th s) g = grp s g := by
  unfold thOf th grp
  rw [List.filter_map, List.map_map]
  rfl
theorem th_len (s : List En) : (th s).length = s.length := by unfold th; rw [List.length_map]
theorem thDrop_len (r : List Th) (id : Int) : (thDrop r id).length ≤ r.length := List.length_filter_le _ _
theorem grp_app (a b : List En) (g : ByteArray) : grp (a ++ b) g = grp a g ++ grp b g := by unfold grp; rw [List.filter_append, List.map_append]
theorem th_heads_aux (s : List En) (hn : (s.map (·.1)).Nodup) : ∀ (rest pre : List En), s = pre ++ rest → thH (pre.map (fun p => p.2.1)) (th rest) = (rest.filter (fun p => decide ((grp s p.2.1).head? = some p.1))).map (·.1) := by
  intro rest
  induction rest with
  | nil => intro pre _; rfl
  | cons p rest ih =>
    intro pre he
    have ih := ih (pre ++ [p]) (by rw [he]; simp)
    rw [List.map_append, List.map_singleton] at ih
    have hg : grp s p.2.1 = grp pre p.2.1 ++ p.1 :: grp rest p.2.1 := by rw [he, grp_app, grp_cons, if_pos rfl]
    have hany : ((pre.map (fun p => p.2.1)).any (fun q => decide (q = p.2.1)) = true) ↔ p.2.1 ∈ pre.map (fun p => p.2.1) := by
      rw [List.any_eq_true]
      constructor
      · rintro ⟨q, hq, e⟩
        rw [← of_decide_eq_true e]; exact hq
      · intro hq
        exact ⟨_, hq, by simp⟩
    show (if (pre.map (fun p => p.2.1)).any (fun q => decide (q = p.2.1)) then thH (pre.map (fun p => p.2.1) ++ [p.2.1]) (th rest) else p.1 :: thH (pre.map (fun p => p.2.1) ++ [p.2.1]) (th rest)) = _
    rw [ih, List.filter_cons]
    by_cases hm : p.2.1 ∈ pre.map (fun p => p.2.1)
    · rw [if_pos (hany.2 hm)]
      obtain ⟨q, hq, e⟩ := List.mem_map.1 hm
      have hqg : q.1 ∈ grp pre p.2.1 := grp_mem.2 ⟨q.2.2, by rw [← e]; exact hq⟩
      have hne : ¬ (grp s p.2.1).head? = some p.1 := by
        rw [hg]
        cases hl : grp pre p.2.1 with
        | nil => rw [hl] at hqg; simp at hqg
        | cons y l =>
          intro e2
          have e3 : y = p.1 := by simpa using e2
          have hy : y ∈ grp pre p.2.1 := by rw [hl]; simp
          obtain ⟨t, ht⟩ := grp_mem.1 hy
          rw [he, List.map_append, List.nodup_append] at hn
          exact hn.2.2 y (List.mem_map.2 ⟨_, ht, rfl⟩) p.1 (by simp) e3
      rw [if_neg (by simpa using hne)]
    · rw [if_neg (fun h => hm (hany.1 h))]
      have hnil : grp pre p.2.1 = [] := by
        cases hl : grp pre p.2.1 with
        | nil => rfl
        | cons y l =>
          have hy : y ∈ grp pre p.2.1 := by rw [hl]; simp
          obtain ⟨t, ht⟩ := grp_mem.1 hy
          exact absurd (List.mem_map.2 ⟨_, ht, rfl⟩) hm
      rw [if_pos (by rw [hg, hnil]; simp), List.map_cons]
theorem th_heads {s : List En} (hn : (s.map (·.1)).Nodup) : thH [] (th s) = (lHeads s).map (·.1) := th_heads_aux s hn s [] rfl

theorem at_loop (xs : List Th) (id : Int) (hl : xs.length ≤ 100000) : ∀ (m k i : Nat), i + m = xs.length → m < k → (∀ p ∈ xs.take i, p.2 ≠ id) →
    PLaneDoes.daisychainref06_At.l0 k (xs.map toS) id (i : Int) = some (thAt xs id) := by
  intro m
  induction m with
  | zero =>
    intro k i hi hk hno
    obtain ⟨k, rfl⟩ : ∃ q, k = q + 1 := ⟨k - 1, by omega⟩
    rw [PLaneDoes.daisychainref06_At.l0, if_neg (by rw [List.length_map]; omega), thAt_none (by rw [List.take_of_length_le (by omega)] at hno; exact hno)]
  | succ m ih =>
    intro k i hi hk hno
    obtain ⟨k, rfl⟩ : ∃ q, k = q + 1 := ⟨k - 1, by omega⟩
    have hx : xs[i]? = some (xs[i]'(by omega)) := List.getElem?_eq_getElem (by omega)
    generalize xs[i]'(by omega) = x at hx
    rw [PLaneDoes.daisychainref06_At.l0, if_pos (by rw [List.length_map]; omega), if_pos (by omega), rd_S hx, w64 i (by omega)]
    by_cases h : x.2 = id
    · rw [if_pos (by exact h), thAt_some hx h hno]
    · rw [if_neg (by exact h)]
      refine ih k (i + 1) (by omega) (by omega) (fun p hp => ?_)
      rw [List.take_add_one, hx] at hp
      rcases List.mem_append.1 hp with hp | hp
      · exact hno p hp
      · have : p = x := by simpa using hp
        rw [this]; exact h
theorem drop_loop (xs : List Th) (id : Int) (hl : xs.length ≤ 100000) : ∀ (m k i : Nat) (out : List Th), i + m = xs.length → m < k → out.length ≤ i →
    PLaneDoes.daisychainref06_Drop.l0 k (xs.map toS) id (out.map toS) (i : Int) = some ((out ++ thDrop (xs.drop i) id).map toS, decide (((out ++ thDrop (xs.drop i) id).length : Int) < (xs.length : Int))) := by
  intro m
  induction m with
  | zero =>
    intro k i out hi hk ho
    obtain ⟨k, rfl⟩ : ∃ q, k = q + 1 := ⟨k - 1, by omega⟩
    rw [PLaneDoes.daisychainref06_Drop.l0, if_neg (by rw [List.length_map]; omega), List.drop_eq_nil_of_le (by omega)]
    simp [thDrop]
  | succ m ih =>
    intro k i out hi hk ho
    obtain ⟨k, rfl⟩ : ∃ q, k = q + 1 := ⟨k - 1, by omega⟩
    have hx : xs[i]? = some (xs[i]'(by omega)) := List.getElem?_eq_getElem (by omega)
    generalize xs[i]'(by omega) = x at hx
    rw [PLaneDoes.daisychainref06_Drop.l0, if_pos (by rw [List.length_map]; omega), if_pos (by omega), rd_S hx, w64 i (by omega), drop_cons' hx]
    by_cases h : x.2 = id
    · rw [if_pos (by exact h)]
      have e : thDrop (x :: xs.drop (i + 1)) id = thDrop (xs.drop (i + 1)) id := by unfold thDrop; simp [h]
      rw [e]
      exact ih k (i + 1) out (by omega) (by omega) (by omega)
    · rw [if_neg (by exact h), if_pos (by rw [List.length_map]; omega)]
      have e : thDrop (x :: xs.drop (i + 1)) id = x :: thDrop (xs.drop (i + 1)) id := by unfold thDrop; simp [h]
      have e2 : out.map toS ++ [(⟨(toS x).f0, (toS x).f1⟩ : PLaneDoes.S38)] = (out ++ [x]).map toS := by rw [List.map_append]; rfl
      rw [e, e2, ih k (i + 1) (out ++ [x]) (by omega) (by omega) (by rw [List.length_append, List.length_singleton]; omega)]
      simp
theorem bytes_eq (a b : ByteArray) : a.toList = b.toList ↔ a = b := by
  constructor
  · intro h
    rw [ByteArray.toList_eq, ByteArray.toList_eq] at h
    exact Go.WideShapes.bytes_inj h
  · intro h; rw [h]
theorem of_loop (xs : List Th) (g : ByteArray) (hl : xs.length ≤ 100000) : ∀ (m k i : Nat) (out : List Int), i + m = xs.length → m < k → out.length ≤ i →
    PLaneDoes.daisychainref06_Of.l0 k (xs.map toS) g out (i : Int) = some (out ++ thOf (xs.drop i) g) := by
  intro m
  induction m with
  | zero =>
    intro k i out hi hk ho
    obtain ⟨k, rfl⟩ : ∃ q, k = q + 1 := ⟨k - 1, by omega⟩
    rw [PLaneDoes.daisychainref06_Of.l0, if_neg (by rw [List.length_map]; omega), List.drop_eq_nil_of_le (by omega)]
    simp [thOf]
  | succ m ih =>
    intro k i out hi hk ho
    obtain ⟨k, rfl⟩ : ∃ q, k = q + 1 := ⟨k - 1, by omega⟩
    have hx : xs[i]? = some (xs[i]'(by omega)) := List.getElem?_eq_getElem (by omega)
    generalize xs[i]'(by omega) = x at hx
    rw [PLaneDoes.daisychainref06_Of.l0, if_pos (by rw [List.length_map]; omega), if_pos (by omega), rd_S hx, w64 i (by omega), drop_cons' hx]
    by_cases h : x.1 = g
    · rw [if_pos (by exact (bytes_eq _ _).2 h), if_pos (by omega), ih k (i + 1) _ (by omega) (by omega) (by rw [List.length_append, List.length_singleton]; omega)]
      have e : thOf (x :: xs.drop (i + 1)) g = x.2 :: thOf (xs.drop (i + 1)) g := by unfold thOf; simp [h]
      rw [e]
      simp [toS]
    · rw [if_neg (by intro e; exact h ((bytes_eq _ _).1 e)), ih k (i + 1) _ (by omega) (by omega) (by omega)]
      have e : thOf (x :: xs.drop (i + 1)) g = thOf (xs.drop (i + 1)) g := by unfold thOf; simp [h]
      rw [e]
theorem heads_loop (xs : List Th) (hl : xs.length ≤ 100000) : ∀ (m k i : Nat) (out : List Int), i + m = xs.length → (m + 1) * (xs.length + 2) < k → out.length ≤ i →
    PLaneDoes.daisychainref06_Heads.l0 k (xs.map toS) out (i : Int) = some (out ++ thH ((xs.take i).map (·.1)) (xs.drop i)) := by
  intro m
  induction m with
  | zero =>
    intro k i out hi hk ho
    obtain ⟨k, rfl⟩ : ∃ q, k = q + 1 := ⟨k - 1, by omega⟩
    rw [PLaneDoes.daisychainref06_Heads.l0, if_neg (by rw [List.length_map]; omega), List.drop_eq_nil_of_le (by omega)]
    simp [thH]
  | succ m ih =>
    intro k i out hi hk ho
    obtain ⟨k, rfl⟩ : ∃ q, k = q + 1 := ⟨k - 1, by omega⟩
    have hx : xs[i]? = some (xs[i]'(by omega)) := List.getElem?_eq_getElem (by omega)
    generalize xs[i]'(by omega) = x at hx
    have htk : (xs.take (i + 1)).map (·.1) = (xs.take i).map (·.1) ++ [x.1] := by rw [List.take_add_one, hx, List.map_append]; rfl
    have hk2 : (m + 1 + 1) * (xs.length + 2) = (m + 1) * (xs.length + 2) + (xs.length + 2) := by rw [Nat.add_mul (m + 1) 1]; omega
    have inner : ∀ (q kk j : Nat) (b : Bool), j + q = i → (m + 1) * (xs.length + 2) + q + 1 < kk → b = !((xs.take j).any (fun p => decide (p.1 = x.1))) →
        PLaneDoes.daisychainref06_Heads.l1 kk (xs.map toS) out (i : Int) b (j : Int) = some (out ++ thH ((xs.take i).map (·.1)) (xs.drop i)) := by
      intro q
      induction q with
      | zero =>
        intro kk j b hj hkk hb
        obtain ⟨kk, rfl⟩ : ∃ r, kk = r + 1 := ⟨kk - 1, by omega⟩
        obtain rfl : j = i := by omega
        have hany : ((xs.take j).map (·.1)).any (fun q => decide (q = x.1)) = !b := by rw [hb, List.any_map, Bool.not_not]; rfl
        have hth : thH ((xs.take j).map (·.1)) (xs.drop j) = if (!b) = true then thH ((xs.take (j + 1)).map (·.1)) (xs.drop (j + 1)) else x.2 :: thH ((xs.take (j + 1)).map (·.1)) (xs.drop (j + 1)) := by
          rw [drop_cons' hx, htk, ← hany]
          rfl
        rw [PLaneDoes.daisychainref06_Heads.l1, if_neg (by omega), hth]
        cases b with
        | true =>
          rw [if_pos rfl, if_pos (by omega), if_pos (by rw [List.length_map]; omega), if_pos (by omega), rd_S hx, w64 j (by omega), ih kk (j + 1) _ (by omega) (by omega) (by rw [List.length_append, List.length_singleton]; omega), if_neg (by decide)]
          simp [toS]
        | false =>
          rw [if_neg (by decide), w64 j (by omega), ih kk (j + 1) _ (by omega) (by omega) (by omega), if_pos (by decide)]
      | succ q ihq =>
        intro kk j b hj hkk hb
        obtain ⟨kk, rfl⟩ : ∃ r, kk = r + 1 := ⟨kk - 1, by omega⟩
        have hy : xs[j]? = some (xs[j]'(by omega)) := List.getElem?_eq_getElem (by omega)
        generalize xs[j]'(by omega) = y at hy
        rw [PLaneDoes.daisychainref06_Heads.l1, if_pos (by omega), if_pos (by omega), if_pos (by rw [List.length_map]; omega), if_pos (by omega), if_pos (by rw [List.length_map]; omega), rd_S hx, rd_S hy, w64 j (by omega)]
        have hta : (xs.take (j + 1)).any (fun p => decide (p.1 = x.1)) = ((xs.take j).any (fun p => decide (p.1 = x.1)) || decide (y.1 = x.1)) := by
          rw [List.take_add_one, hy, List.any_append]
          simp
        by_cases h : y.1 = x.1
        · rw [if_pos (by exact (bytes_eq _ _).2 h)]
          exact ihq kk (j + 1) false (by omega) (by omega) (by rw [hta]; simp [h])
        · rw [if_neg (by intro e; exact h ((bytes_eq _ _).1 e))]
          exact ihq kk (j + 1) b (by omega) (by omega) (by rw [hta, hb]; simp [h])
    rw [PLaneDoes.daisychainref06_Heads.l0, if_pos (by rw [List.length_map]; omega)]
    exact inner i k 0 true (by omega) (by omega) (by simp)

theorem refDrop_any (A : Option Addr) (n c : Nat) (xs : List Th) (id : Int) (w : World) (hC : KTh.C w A n xs) (hc : n ≤ c) (hl : n ≤ 100000) :
    Calls Try.prog 11 #[.slice A n c, .int .i64 id] w fun e w' => ∃ v, e = .returned (.tuple #[v, .bool (decide ((thDrop xs id).length < xs.length))]) ∧ KTh.R 38 w' w.heap.size (fun _ => True) v (thDrop xs id) ∧ Below w.heap.size w w' := by
  have hn := Kd.C_len hC
  subst hn
  have hC' := C_toS hC
  have e : (xs.map toS).length = xs.length := by simp
  have := PLaneDoes.daisychainref06_Drop.calls (xs.length + 1) A c (xs.map toS) id ((thDrop xs id).map toS) (decide ((thDrop xs id).length < xs.length)) w (by rw [e]; exact hC') (by rw [e]; exact hc) (by
    unfold PLaneDoes.daisychainref06_Drop.f
    have := drop_loop xs id hl xs.length (xs.length + 1) 0 [] (by omega) (by omega) (by simp)
    simpa using this)
  rw [e] at this
  refine this.mono ?_
  rintro e' w' ⟨v, rfl, hR, hB⟩
  have := R_ofS hR
  rw [map_of_to] at this
  exact ⟨v, rfl, this, hB⟩
theorem refAdd_any (ok : Nat → Prop) (v : Value) (xs : List Th) (g : ByteArray) (id : Int) (w0 w : World) (hB : Below w0.heap.size w0 w) (hR : KTh.R 38 w w0.heap.size ok v xs) (hl : xs.length ≤ 100000) :
    Calls Try.prog 13 #[v, .string g, .int .i64 id] w fun e w' => ∃ v', e = .returned (.tuple #[v', .bool (!thHas xs id)]) ∧ KTh.R 38 w' w0.heap.size (fun k => ok k ∨ w.heap.size ≤ k) v' (thAdd xs g id) ∧ Below w0.heap.size w0 w' ∧ Kept w w' ok := by
  have e : (xs.map toS).length = xs.length := by simp
  have := PLaneDoes.daisychainref06_Add.calls (xs.length + 1) ok v (xs.map toS) g id ((thAdd xs g id).map toS) (!thHas xs id) w0 w hB (R_toS hR) (by
    unfold PLaneDoes.daisychainref06_Add.f PLaneDoes.daisychainref06_At.f
    have h1 := at_loop xs id hl xs.length (xs.length + 1) 0 (by omega) (by omega) (by simp)
    have h1 : PLaneDoes.daisychainref06_At.l0 (xs.length + 1) (xs.map toS) id 0 = some (thAt xs id) := by simpa using h1
    rw [h1, Option.bind_some]
    by_cases h : thHas xs id = true
    · have h2 : 0 ≤ thAt xs id := by
        unfold thAt
        cases hf : xs.findIdx? (fun p => decide (p.2 = id)) with
        | none =>
          rw [List.findIdx?_eq_none_iff] at hf
          obtain ⟨p, hp, e⟩ := List.any_eq_true.1 h
          rw [hf p hp] at e; cases e
        | some j => show (0 : Int) ≤ (j : Int); omega
      rw [if_pos h2, thAdd, if_pos h, h]
      rfl
    · have h0 : thHas xs id = false := by simpa using h
      have h2 : thAt xs id = -1 := thAt_none (fun p hp e => by
        have := List.any_eq_false.1 h0 p hp
        simp [e] at this)
      rw [h2, if_neg (by omega), thAdd, if_neg h, h0]
      simp only [Option.bind_some, List.nil_append, List.length_nil, e]
      rw [if_pos (by omega), if_pos (by omega)]
      simp [toS])
  refine this.mono ?_
  rintro e' w' ⟨v', rfl, hR', hB', hK⟩
  have := R_ofS hR'
  rw [map_of_to] at this
  exact ⟨v', rfl, this, hB', hK⟩
theorem refOf_any (A : Option Addr) (n c : Nat) (xs : List Th) (g : ByteArray) (w : World) (hC : KTh.C w A n xs) (hc : n ≤ c) (hl : n ≤ 100000) :
    Calls Try.prog 17 #[.slice A n c, .string g] w fun e w' => ∃ v, e = .returned v ∧ (Kd.int .i64).R 3 w' w.heap.size (fun _ => True) v (thOf xs g) ∧ Below w.heap.size w w' := by
  have hn := Kd.C_len hC
  subst hn
  have hC' := C_toS hC
  have e : (xs.map toS).length = xs.length := by simp
  have := PLaneDoes.daisychainref06_Of.calls (xs.length + 1) A c (xs.map toS) g (thOf xs g) w (by rw [e]; exact hC') (by rw [e]; exact hc) (by
    unfold PLaneDoes.daisychainref06_Of.f
    have := of_loop xs g hl xs.length (xs.length + 1) 0 [] (by omega) (by omega) (by simp)
    simpa using this)
  rw [e] at this
  exact this
theorem refHeads_any (A : Option Addr) (n c : Nat) (xs : List Th) (w : World) (hC : KTh.C w A n xs) (hc : n ≤ c) (hl : n ≤ 100000) :
    Calls Try.prog 24 #[.slice A n c] w fun e w' => ∃ v, e = .returned v ∧ (Kd.int .i64).R 3 w' w.heap.size (fun _ => True) v (thH [] xs) ∧ Below w.heap.size w w' := by
  have hn := Kd.C_len hC
  subst hn
  have hC' := C_toS hC
  have e : (xs.map toS).length = xs.length := by simp
  have := PLaneDoes.daisychainref06_Heads.calls ((xs.length + 1) * (xs.length + 2) + 1) A c (xs.map toS) (thH [] xs) w (by rw [e]; exact hC') (by rw [e]; exact hc) (by
    unfold PLaneDoes.daisychainref06_Heads.f
    have := heads_loop xs hl xs.length ((xs.length + 1) * (xs.length + 2) + 1) 0 [] (by omega) (by omega) (by simp)
    simpa using this)
  rw [e] at this
  exact this
end Go.Proofs.Ytdcifghhamondaa
