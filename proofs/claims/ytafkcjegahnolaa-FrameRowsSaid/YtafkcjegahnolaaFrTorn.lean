/- A frame that is torn is none. -/
import Derived.Test.YtafkcjegahnolaaFrInj
import Derived.Test.YtafkcjegahnolaaFrNext
namespace Go.Proofs.Ytafkcjegahnolaa
open Go.RowKit Go.Proofs.YtafkcjegahnolaaW.PrintWords

/-- The row with so many of the four bytes turned, from place a on. -/
def tornN (s : List Int) (a : Nat) (x : Nat → Nat) : Nat → List Int
  | 0 => s
  | k + 1 => if a ≤ s.length ∧ a + k < s.length ∧ (6 ≤ a ∨ a + k < 6) then (tornN s a x k).set (a + k) ((((tornN s a x k).getD (a + k) 0).toNat ^^^ x k : Nat) : Int) else tornN s a x k
theorem tornN_length (s : List Int) (a : Nat) (x : Nat → Nat) (k : Nat) : (tornN s a x k).length = s.length := by
  induction k with
  | zero => rfl
  | succ k ih =>
    rw [tornN]
    split
    · rw [List.length_set, ih]
    · exact ih
theorem tornN_ok {s : List Int} {a : Nat} {x : Nat → Nat} (h : BytesOk s) (hx : ∀ k, x k < 256) (k : Nat) : BytesOk (tornN s a x k) := by
  induction k with
  | zero => exact h
  | succ k ih =>
    rw [tornN]
    split
    · rename_i hc
      intro z hz
      rcases List.mem_or_eq_of_mem_set hz with hz | rfl
      · exact ih z hz
      · have hl : a + k < (tornN s a x k).length := by rw [tornN_length]; exact hc.2.1
        have h1 := ih _ (List.getElem_mem hl)
        have h2 : (tornN s a x k).getD (a + k) 0 = (tornN s a x k)[a + k] := by simp [List.getD_eq_getElem?_getD, hl]
        rw [h2]
        have := Nat.xor_lt_two_pow (n := 8) (x := ((tornN s a x k)[a + k]).toNat) (y := x k) (by omega) (hx k)
        omega
    · exact ih
theorem tornN_at (s : List Int) (a : Nat) (x : Nat → Nat) (k j : Nat) (h : j < a ∨ a + k ≤ j ∨ (a < 6 ∧ 6 ≤ j)) : (tornN s a x k)[j]? = s[j]? := by
  induction k with
  | zero => rfl
  | succ k ih =>
    rw [tornN]
    split
    · rename_i hc
      have : ¬ a + k = j := by omega
      rw [List.getElem?_set_ne this]
      exact ih (by omega)
    · exact ih (by omega)
theorem take_eq_of {l m : List Int} (k : Nat) (h : ∀ j, j < k → l[j]? = m[j]?) : l.take k = m.take k := by
  apply List.ext_getElem?
  intro j
  rw [List.getElem?_take, List.getElem?_take]
  split
  · exact h j (by assumption)
  · rfl
theorem drop_eq_of {l m : List Int} (k : Nat) (h : ∀ j, k ≤ j → l[j]? = m[j]?) : l.drop k = m.drop k := by
  apply List.ext_getElem?
  intro j
  rw [List.getElem?_drop, List.getElem?_drop]
  exact h _ (by omega)
theorem sealOf_take (l : List Int) : (sealOf l).take 6 = headOf l := List.take_left' (headOf_length l)
theorem sealOf_drop (l : List Int) : (sealOf l).drop 6 = l := List.drop_left' (headOf_length l)
theorem headN_seal (l : List Int) (hl : l.length < 65536) (t : List Int) (h0 : t[0]? = (sealOf l)[0]?) (h1 : t[1]? = (sealOf l)[1]?) : headN t = l.length := by
  have e : ∀ j, j < 2 → (sealOf l)[j]? = (lowN l.length 2)[j]? := by
    intro j hj
    rw [sealOf, headOf, List.append_assoc, List.getElem?_append_left (by rw [lowN_length]; exact hj)]
  rw [e 0 (by decide)] at h0
  rw [e 1 (by decide)] at h1
  have e0 : (lowN l.length 2)[0]? = some ((l.length % 256 : Nat) : Int) := by simp [lowN, List.range_succ]
  have e1 : (lowN l.length 2)[1]? = some ((l.length / 256 % 256 : Nat) : Int) := by simp [lowN, List.range_succ]
  rw [headN, List.getD_eq_getElem?_getD, List.getD_eq_getElem?_getD, h0, h1, e0, e1]
  show ((l.length % 256 : Nat) : Int).toNat + 256 * ((l.length / 256 % 256 : Nat) : Int).toNat = l.length
  omega
theorem nextErr_as {t l : List Int} (hl : l.length ≤ 4096) (ht : t.length = l.length + 6) (h0 : t[0]? = (sealOf l)[0]?) (h1 : t[1]? = (sealOf l)[1]?) : nextErr t = 0 ↔ headOf (t.drop 6) = t.take 6 := by
  have hn := headN_seal l (by omega) t h0 h1
  have hb : bodyOf t = t.drop 6 := by
    rw [bodyOf, hn, List.take_of_length_le]
    rw [List.length_drop]
    omega
  rw [nextErr, if_neg (by omega), if_neg (by omega), if_neg (by omega), hb]
  constructor
  · intro h
    by_cases he : headOf (t.drop 6) = t.take 6
    · exact he
    · rw [if_neg he] at h
      cases h
  · intro h
    rw [if_pos h]
theorem lowN4_inj {a b : Nat} (ha : a < 4294967296) (hb : b < 4294967296) (h : lowN a 4 = lowN b 4) : a = b := by
  simp only [lowN, List.range_succ, List.range_zero, List.nil_append, List.map_append, List.map_cons, List.map_nil, List.cons_append] at h
  simp only [List.cons.injEq, Int.natCast_inj, and_true] at h
  omega
theorem headOf_eq {l m : List Int} (hlen : l.length = m.length) : headOf l = headOf m ↔ sumOf (lowN l.length 2 ++ l) = sumOf (lowN m.length 2 ++ m) := by
  constructor
  · intro h
    have h2 : (headOf l).drop 2 = (headOf m).drop 2 := by rw [h]
    rw [headOf, headOf, List.drop_left' (lowN_length _ _), List.drop_left' (lowN_length _ _)] at h2
    exact lowN4_inj (sumOf_lt _) (sumOf_lt _) h2
  · intro h
    rw [headOf, headOf, h, hlen]
theorem torn_law {l : List Int} {a : Nat} {x : Nat → Nat} (hl : BytesOk l) (hlen : l.length ≤ 4096) (ha : 2 ≤ a) (hx : ∀ k, x k < 256) : nextErr (tornN (sealOf l) a x 4) = 0 ↔ tornN (sealOf l) a x 4 = sealOf l := by
  have ht : (tornN (sealOf l) a x 4).length = l.length + 6 := by rw [tornN_length, sealOf_length]
  have hat := tornN_at (sealOf l) a x 4
  have hok := tornN_ok (a := a) (sealOf_ok hl) hx 4
  generalize tornN (sealOf l) a x 4 = t at *
  rw [nextErr_as hlen ht (hat 0 (by omega)) (hat 1 (by omega))]
  constructor
  · intro h
    by_cases h6 : a < 6
    · have hd : t.drop 6 = (sealOf l).drop 6 := drop_eq_of 6 (fun j hj => hat j (by omega))
      rw [hd, sealOf_drop] at h
      rw [← List.take_append_drop 6 t, hd, sealOf_drop, ← h]
      rfl
    · have htk : t.take 6 = (sealOf l).take 6 := take_eq_of 6 (fun j hj => hat j (by omega))
      rw [htk, sealOf_take, headOf_eq (by rw [List.length_drop]; omega)] at h
      have hdl : (t.drop 6).length = l.length := by rw [List.length_drop]; omega
      rw [hdl] at h
      have hokd : BytesOk (t.drop 6) := fun z hz => hok z (List.mem_of_mem_drop hz)
      have h1 : (t.drop 6).take (a - 6) = l.take (a - 6) := by
        refine take_eq_of _ (fun j hj => ?_)
        rw [List.getElem?_drop, hat _ (by omega), ← List.getElem?_drop, sealOf_drop]
      have h2 : (t.drop 6).drop (a - 6 + 4) = l.drop (a - 6 + 4) := by
        refine drop_eq_of _ (fun j hj => ?_)
        rw [List.getElem?_drop, hat _ (by omega), ← List.getElem?_drop, sealOf_drop]
      have sp : ∀ q : List Int, q = q.take (a - 6) ++ (q.drop (a - 6)).take 4 ++ q.drop (a - 6 + 4) := by
        intro q
        conv => lhs; rw [← List.take_append_drop (a - 6) q, ← List.take_append_drop 4 (q.drop (a - 6)), List.drop_drop]
        rw [List.append_assoc]
      have e1 := sp (t.drop 6)
      have e2 := sp l
      rw [h1, h2] at e1
      have hsub : ∀ {q : List Int} (i j : Nat), BytesOk q → BytesOk ((q.drop i).take j) := fun i j hq z hz => hq z (List.mem_of_mem_drop (List.mem_of_mem_take hz))
      have hu : ((t.drop 6).drop (a - 6)).take 4 = (l.drop (a - 6)).take 4 := by
        refine sum_apart (p := lowN l.length 2 ++ l.take (a - 6)) (s := l.drop (a - 6 + 4)) ((lowN_ok _ _).app (fun z hz => hl z (List.mem_of_mem_take hz))) (hsub _ _ hokd) (hsub _ _ hl) (fun z hz => hl z (List.mem_of_mem_drop hz)) ?_ ?_ ?_
        · simp only [List.length_take, List.length_drop]
          omega
        · rw [List.length_take]
          omega
        · rw [List.append_assoc, List.append_assoc, List.append_assoc, List.append_assoc, ← List.append_assoc (l.take (a - 6)), ← List.append_assoc (l.take (a - 6)), ← e1, ← e2]
          exact h
      rw [hu, ← e2] at e1
      rw [← List.take_append_drop 6 t, htk, sealOf_take, e1]
      rfl
  · intro h
    rw [h, sealOf_drop, sealOf_take]
theorem cut_law {l : List Int} (hlen : l.length ≤ 4096) {c : Nat} (hc : c < l.length + 6) : nextErr ((sealOf l).take c) = 3 := by
  have hlc : ((sealOf l).take c).length = c := by rw [List.length_take, sealOf_length]; omega
  rw [nextErr, hlc]
  by_cases h6 : c < 6
  · rw [if_pos h6]
  · have hn := headN_seal l (by omega) ((sealOf l).take c) (by rw [List.getElem?_take, if_pos (by omega)]) (by rw [List.getElem?_take, if_pos (by omega)])
    rw [if_neg h6, hn, if_neg (by omega), if_pos (by omega)]
theorem seal_law {l r : List Int} (hlen : l.length ≤ 4096) : nextErr (sealOf l ++ r) = 0 ∧ nextBody (sealOf l ++ r) = l ∧ nextRest (sealOf l ++ r) = r := by
  have hs := sealOf_length l
  have hn := headN_seal l (by omega) (sealOf l ++ r) (by rw [List.getElem?_append_left (by omega)]) (by rw [List.getElem?_append_left (by omega)])
  have hb : bodyOf (sealOf l ++ r) = l := by
    rw [bodyOf, hn, List.drop_append_of_le_length (by omega), sealOf_drop, List.take_left' rfl]
  have he : nextErr (sealOf l ++ r) = 0 := by
    rw [nextErr, List.length_append, hn, hb, if_neg (by omega), if_neg (by omega), if_neg (by omega), if_pos]
    rw [List.take_append_of_le_length (by omega), sealOf_take]
  refine ⟨he, ?_, ?_⟩
  · rw [nextBody, if_pos he, hb]
  · rw [nextRest, if_pos he, hn, List.drop_left' (by omega)]
theorem sealOf_inj {a b : List Int} : sealOf a = sealOf b ↔ a = b := by
  constructor
  · intro h
    have h1 : (sealOf a).drop 6 = (sealOf b).drop 6 := by rw [h]
    rwa [sealOf, sealOf, List.drop_left' (headOf_length a), List.drop_left' (headOf_length b)] at h1
  · intro h
    rw [h]
/-- Seal of a row that may be. -/
theorem seal_n (A : Option Addr) (n c : Nat) (xs : List Int) (w : World) (hn : xs.length = n) (hC : (Kd.int .u8).C w A n xs) (hc : n ≤ c) (hx : BytesOk xs) (hl : n ≤ 4096) :
    Calls Try.prog 14 #[.slice A n c] w fun e w' => ∃ A' c', e = .returned (.tuple #[.slice A' (n + 6) c', .int .i64 0]) ∧ (Kd.int .u8).R 5 w' w.heap.size (fun _ => True) (.slice A' (n + 6) c') (sealOf xs) ∧ n + 6 ≤ c' ∧ (Kd.int .u8).C w' A' (n + 6) (sealOf xs) ∧ Below w.heap.size w w' := by
  subst hn
  refine Calls.mono (seal_any A c xs w hC hc hx) ?_
  rintro e w' ⟨A', n', c', rfl, hR, hB⟩
  rw [sealBytes, if_neg (by omega)] at hR
  rw [sealErr, if_neg (by omega)]
  obtain ⟨h1, h2, h3⟩ := Kd.R_reads' hR
  rw [sealOf_length] at h1 h3
  subst h1
  exact ⟨A', c', rfl, hR, h2, h3, hB⟩
end Go.Proofs.Ytafkcjegahnolaa
