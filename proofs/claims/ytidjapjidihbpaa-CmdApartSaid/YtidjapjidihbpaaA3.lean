/- Put together: Numbers, texts and rows as they are read: the plain law. What was written is read; what is read is as it would be written; where it ends too soon, that is told. No program in it. · A command is read from its bytes: the plain law. No program in it. · An answer's bytes, and that it is read from them: the plain law. No program in it. · coil.Reader in memory, and what of its methods needs no loop: each by its contract. · coil.Reader: number and Num by their contracts. · coil.Reader: Text by its contract. · coil.Reader: Nums by its contract. -/
import Derived.Test.YtidjapjidihbpaaA1
import Derived.Test.YtidjapjidihbpaaA2
import Derived.Laws.BitsAllLaws
import Derived.Deep.QuietTactic
import Derived.BigQuiet
import Derived.IntWalk
import Derived.Deep.DeepCutAuto
import Derived.Laws.IdiomStrings
set_option linter.unusedVariables false
set_option linter.unusedSimpArgs false
set_option linter.unusedVariables false
set_option linter.unusedSimpArgs false
namespace Go.Proofs.Ytidjapjidihbpaa
open Go.RowKit Go.Proofs.YtidjapjidihbpaaW.PrintWords
/-! What is read: numbers, texts, rows. -/
/-- How many bytes go on, from the beginning. -/
def runLen : List Int → Nat
  | [] => 0
  | c :: l => if 128 ≤ c then runLen l + 1 else 0
/-- What bytes are worth: seven bits each, the low ones first. -/
def decVal : List Int → Nat
  | [] => 0
  | c :: l => c.toNat % 128 + 128 * decVal l
/-- The number at the beginning of bytes, and of how many bytes it is; or why there is none. -/
def decNum (l : List Int) : Except Int (Int × Nat) :=
  if 9 ≤ runLen l then .error 2 else if l.length ≤ runLen l then .error 3 else if l[runLen l]? = some 0 ∧ 0 < runLen l then .error 2 else .ok ((decVal (l.take (runLen l + 1)) : Nat), runLen l + 1)
theorem runLen_le (l : List Int) : runLen l ≤ l.length := by
  induction l with
  | nil => exact Nat.le_refl _
  | cons c l ih =>
    unfold runLen
    split
    · rw [List.length_cons]; omega
    · exact Nat.zero_le _
/-- Bytes. -/
def ByOk (l : List Int) : Prop := ∀ x ∈ l, 0 ≤ x ∧ x < 256
theorem ByOk.tail {c : Int} {l : List Int} (h : ByOk (c :: l)) : ByOk l := fun x hx => h x (List.mem_cons_of_mem _ hx)
theorem ByOk.drop {l : List Int} (h : ByOk l) (k : Nat) : ByOk (l.drop k) := fun x hx => h x (List.drop_subset _ _ hx)
theorem encNat_ok (n : Nat) : ByOk (encNat n) := by
  induction n using Nat.strongRecOn with
  | _ n ih =>
    by_cases hn : n < 128
    · rw [encNat_small hn]
      intro x hx
      rw [List.mem_singleton] at hx
      omega
    · rw [encNat_big hn]
      intro x hx
      rcases List.mem_cons.1 hx with rfl | hx
      · omega
      · exact ih _ (by omega) x hx
theorem encNat_pos (n : Nat) : 0 < (encNat n).length := by
  by_cases hn : n < 128
  · rw [encNat_small hn]; simp
  · rw [encNat_big hn]; simp
/-- What was read is what would be written. -/
theorem decVal_enc : ∀ (l : List Int), ByOk l → runLen l < l.length → (l[runLen l]? = some 0 → runLen l = 0) → encNat (decVal (l.take (runLen l + 1))) = l.take (runLen l + 1)
  | [], _, h, _ => absurd h (by simp)
  | c :: l, hb, h, hz => by
    have hc := hb c (List.mem_cons_self ..)
    unfold runLen at h hz ⊢
    split at h
    · rename_i hc1
      rw [if_pos hc1] at hz
      rw [if_pos hc1, List.take_succ_cons]
      rw [List.length_cons] at h
      have hz' : l[runLen l]? = some 0 → runLen l = 0 := fun e => by
        have := hz (by rw [List.getElem?_cons_succ]; exact e)
        omega
      have ih := decVal_enc l hb.tail (by omega) hz'
      have hpos : 0 < decVal (l.take (runLen l + 1)) := by
        rcases Nat.eq_zero_or_pos (decVal (l.take (runLen l + 1))) with h0 | h0
        · exfalso
          rw [h0, encNat_small (by omega)] at ih
          have hl : (l.take (runLen l + 1)).length = runLen l + 1 := by rw [List.length_take]; omega
          rw [← ih] at hl
          have hr0 : runLen l = 0 := by simpa using hl.symm
          have h1 : l[runLen l]? = some 0 := by
            rw [hr0] at ih ⊢
            cases l with
            | nil => simp at ih
            | cons d l => simp at ih ⊢; exact ih.symm
          have := hz (by rw [List.getElem?_cons_succ]; exact h1)
          omega
        · exact h0
      show encNat (c.toNat % 128 + 128 * decVal (l.take (runLen l + 1))) = _
      rw [encNat_big (by omega), show (c.toNat % 128 + 128 * decVal (l.take (runLen l + 1))) / 128 = decVal (l.take (runLen l + 1)) by omega, ih]
      congr 1
      omega
    · rename_i hc1
      rw [if_neg hc1]
      show encNat (c.toNat % 128 + 128 * decVal (l.take 0)) = [c]
      rw [List.take_zero]
      show encNat (c.toNat % 128 + 128 * 0) = [c]
      rw [encNat_small (by omega)]
      congr 1
      omega
theorem decVal_lt : ∀ l : List Int, decVal l < 128 ^ l.length
  | [] => by simp [decVal]
  | c :: l => by
    have := decVal_lt l
    show c.toNat % 128 + 128 * decVal l < 128 ^ (l.length + 1)
    rw [Nat.pow_succ]
    omega
theorem decNum_some {l : List Int} (hb : ByOk l) {n : Int} {k : Nat} (h : decNum l = .ok (n, k)) : l.take k = encNum n ∧ 0 ≤ n ∧ n ≤ 9223372036854775807 ∧ 0 < k ∧ k ≤ 9 ∧ k ≤ l.length := by
  unfold decNum at h
  split at h
  · cases h
  · split at h
    · cases h
    · split at h
      · cases h
      · rename_i h1 h2 h3
        injection h with h
        injection h with hn hk
        have hv := decVal_lt (l.take (runLen l + 1))
        have hl : (l.take (runLen l + 1)).length ≤ 9 := by rw [List.length_take]; omega
        have h9 : 128 ^ (l.take (runLen l + 1)).length ≤ 128 ^ 9 := Nat.pow_le_pow_right (by omega) hl
        have h9' : (128 : Nat) ^ 9 = 9223372036854775808 := by decide
        subst hk
        refine ⟨?_, by omega, by omega, by omega, by omega, by omega⟩
        rw [← hn]
        unfold encNum
        rw [Int.toNat_natCast]
        refine (decVal_enc l hb (by omega) (fun e => ?_)).symm
        rcases Nat.eq_zero_or_pos (runLen l) with h0 | h0
        · exact h0
        · exact absurd ⟨e, h0⟩ h3
theorem decNum_code {l : List Int} {c : Int} (h : decNum l = .error c) : c = 2 ∨ c = 3 := by
  unfold decNum at h
  split at h
  · injection h with h; exact .inl h.symm
  · split at h
    · injection h with h; exact .inr h.symm
    · split at h
      · injection h with h; exact .inl h.symm
      · cases h
theorem decNum_ne {l : List Int} {c : Int} (h : decNum l = .error c) : c ≠ 0 := by
  rcases decNum_code h with rfl | rfl <;> decide
theorem runLen_enc (n : Nat) (r : List Int) : runLen (encNat n ++ r) = (encNat n).length - 1 := by
  induction n using Nat.strongRecOn with
  | _ n ih =>
    by_cases hn : n < 128
    · rw [encNat_small hn]
      show (if 128 ≤ (n : Int) then runLen r + 1 else 0) = 0
      rw [if_neg (by omega)]
    · rw [encNat_big hn, List.cons_append]
      show (if 128 ≤ (((128 + n % 128 : Nat)) : Int) then runLen (encNat (n / 128) ++ r) + 1 else 0) = _
      rw [if_pos (by omega), ih _ (by omega), List.length_cons]
      have := encNat_pos (n / 128)
      omega
theorem decVal_of (n : Nat) : decVal (encNat n) = n := by
  induction n using Nat.strongRecOn with
  | _ n ih =>
    by_cases hn : n < 128
    · rw [encNat_small hn]
      show (n : Int).toNat % 128 + 128 * 0 = n
      omega
    · rw [encNat_big hn]
      show (((128 + n % 128 : Nat)) : Int).toNat % 128 + 128 * decVal (encNat (n / 128)) = n
      rw [ih _ (by omega)]
      omega
theorem encNat_last (n : Nat) (h : (encNat n)[(encNat n).length - 1]? = some 0) : (encNat n).length = 1 := by
  induction n using Nat.strongRecOn with
  | _ n ih =>
    by_cases hn : n < 128
    · rw [encNat_small hn]; rfl
    · exfalso
      rw [encNat_big hn, List.length_cons] at h
      have hp := encNat_pos (n / 128)
      rw [show (encNat (n / 128)).length + 1 - 1 = ((encNat (n / 128)).length - 1) + 1 by omega, List.getElem?_cons_succ] at h
      have h1 := ih (n / 128) (by omega) h
      have : n / 128 < 128 := by
        rcases Nat.lt_or_ge (n / 128) 128 with h2 | h2
        · exact h2
        · rw [encNat_big (by omega), List.length_cons] at h1
          have := encNat_pos (n / 128 / 128)
          omega
      rw [encNat_small this] at h
      simp at h
      omega
/-- What was written is read. -/
theorem decNum_enc {n : Int} (h0 : 0 ≤ n) (h1 : n ≤ 9223372036854775807) (r : List Int) : decNum (encNum n ++ r) = .ok (n, (encNum n).length) := by
  have hl := encNum_len h1
  have hr := runLen_enc n.toNat r
  have hp := encNat_pos n.toNat
  unfold encNum at hl ⊢
  unfold decNum
  rw [hr, if_neg (by omega), if_neg (by rw [List.length_append]; omega), if_neg]
  · rw [show (encNat n.toNat).length - 1 + 1 = (encNat n.toNat).length by omega, List.take_left, decVal_of]
    congr 2
    omega
  · rintro ⟨h2, h3⟩
    rw [List.getElem?_append_left (by omega)] at h2
    have := encNat_last _ h2
    omega
/-- A beginning of it is not. -/
theorem runLen_cut (n : Nat) (p : List Int) (hp : p <+: encNat n) (hl : p.length < (encNat n).length) : runLen p = p.length := by
  induction n using Nat.strongRecOn generalizing p with
  | _ n ih =>
    cases p with
    | nil => rfl
    | cons c p =>
      by_cases hn : n < 128
      · rw [encNat_small hn] at hl
        simp at hl
      · rw [encNat_big hn] at hp hl
        rw [List.cons_prefix_cons] at hp
        obtain ⟨rfl, hp⟩ := hp
        show (if 128 ≤ (((128 + n % 128 : Nat)) : Int) then runLen p + 1 else 0) = _
        rw [if_pos (by omega), ih _ (by omega) p hp (by simpa using hl), List.length_cons]
theorem decNum_cut {n : Int} (h1 : n ≤ 9223372036854775807) {p : List Int} (hp : p <+: encNum n) (hl : p.length < (encNum n).length) : decNum p = .error 3 := by
  have h9 := encNum_len h1
  have hr := runLen_cut n.toNat p hp hl
  unfold decNum
  rw [hr, if_neg (by omega), if_pos (Nat.le_refl _)]

/-- A text's bytes. -/
def textOf (l : List Int) : ByteArray := ⟨(l.map (fun x => UInt8.ofNat x.toNat)).toArray⟩
theorem textOf_size (l : List Int) : (textOf l).size = l.length := by simp [textOf, ByteArray.size]
theorem bytesOf_textOf {l : List Int} (h : ByOk l) : bytesOf (textOf l) = l := by
  unfold bytesOf textOf
  rw [List.toList_toArray, List.map_map]
  conv => rhs; rw [← List.map_id l]
  apply List.map_congr_left
  intro x hx
  have := h x hx
  simp only [Function.comp, id]
  rw [UInt8.toNat_ofNat']
  omega
theorem textOf_bytesOf (s : ByteArray) : textOf (bytesOf s) = s := by
  unfold bytesOf textOf
  rw [List.map_map]
  have : (fun x : Int => UInt8.ofNat x.toNat) ∘ (fun b : UInt8 => ((b.toNat : Nat) : Int)) = id := by
    funext b
    simp [Function.comp]
  rw [this, List.map_id]
theorem bytesOf_ok (s : ByteArray) : ByOk (bytesOf s) := by
  intro x hx
  unfold bytesOf at hx
  obtain ⟨b, _, rfl⟩ := List.mem_map.1 hx
  have := b.toNat_lt
  omega

/-- Where a reader is; and why it does not go on (0: it does). -/
structure Rs where
  at_ : Nat
  no : Int
def rsNum (bs : List Int) (s : Rs) : Rs × Int :=
  if s.no = 0 then
    match decNum (bs.drop s.at_) with
    | .ok (n, k) => (⟨s.at_ + k, 0⟩, n)
    | .error c => (⟨s.at_, c⟩, 0)
  else (s, 0)
def rsText (bs : List Int) (most : Int) (s : Rs) : Rs × ByteArray :=
  if s.no = 0 then
    match decNum (bs.drop s.at_) with
    | .ok (n, k) => if most < n then (⟨s.at_, 2⟩, ⟨#[]⟩) else if (bs.length : Int) - (s.at_ + k : Nat) < n then (⟨s.at_, 3⟩, ⟨#[]⟩) else (⟨s.at_ + k + n.toNat, 0⟩, textOf ((bs.drop (s.at_ + k)).take n.toNat))
    | .error c => (⟨s.at_, c⟩, ⟨#[]⟩)
  else (s, ⟨#[]⟩)
/-- So many, one behind the other. -/
def rsMany {α : Type} (f : Rs → Rs × α) : Nat → Rs → Rs × List α
  | 0, s => (s, [])
  | k + 1, s => ((rsMany f k (f s).1).1, (f s).2 :: (rsMany f k (f s).1).2)
/-- A row of numbers: where one is amiss the reader is where it began. -/
def rsNums (bs : List Int) (most : Int) (s : Rs) : Rs × List Int :=
  if s.no = 0 then
    match decNum (bs.drop s.at_) with
    | .ok (n, k) =>
      if most < n then (⟨s.at_, 2⟩, [])
      else if (rsMany (rsNum bs) n.toNat ⟨s.at_ + k, 0⟩).1.no = 0 then rsMany (rsNum bs) n.toNat ⟨s.at_ + k, 0⟩ else (⟨s.at_, (rsMany (rsNum bs) n.toNat ⟨s.at_ + k, 0⟩).1.no⟩, [])
    | .error c => (⟨s.at_, c⟩, [])
  else (s, [])
/-- What is amiss at the end. -/
def rsDone (bs : List Int) (s : Rs) : Int := if s.no = 0 ∧ s.at_ < bs.length then 2 else s.no
theorem rsMany_len {α : Type} (f : Rs → Rs × α) : ∀ (k : Nat) (s : Rs), (rsMany f k s).2.length = k
  | 0, _ => rfl
  | k + 1, s => by
    show ((f s).2 :: (rsMany f k (f s).1).2).length = _
    rw [List.length_cons, rsMany_len f k]
theorem rsMany_succ {α : Type} (f : Rs → Rs × α) : ∀ (k : Nat) (s : Rs), rsMany f (k + 1) s = ((f (rsMany f k s).1).1, (rsMany f k s).2 ++ [(f (rsMany f k s).1).2])
  | 0, s => rfl
  | k + 1, s => by
    show ((rsMany f (k + 1) (f s).1).1, (f s).2 :: (rsMany f (k + 1) (f s).1).2) = _
    rw [rsMany_succ f k (f s).1]
    rfl
/-! Each piece that was read is as it would be written. -/
/-- What is behind is what was read. -/
def Fit (bs : List Int) (s : Rs) (E : List Int) : Prop := s.no = 0 → bs.take s.at_ = E ∧ s.at_ ≤ bs.length
theorem Fit.start (bs : List Int) : Fit bs ⟨0, 0⟩ [] := fun _ => ⟨rfl, Nat.zero_le _⟩
theorem take_add_drop {bs : List Int} {a k : Nat} {E e : List Int} (h1 : bs.take a = E) (h2 : (bs.drop a).take k = e) : bs.take (a + k) = E ++ e := by rw [List.take_add, h1, h2]
section
variable {bs : List Int} (hb : ByOk bs) {s : Rs} {E : List Int}
include hb
theorem Fit.num (h : Fit bs s E) : Fit bs (rsNum bs s).1 (E ++ encNum (rsNum bs s).2) ∧ 0 ≤ (rsNum bs s).2 ∧ (rsNum bs s).2 ≤ 9223372036854775807 := by
  unfold rsNum
  split
  · rename_i h0
    cases hd : decNum (bs.drop s.at_) with
    | ok p =>
      obtain ⟨n, k⟩ := p
      obtain ⟨h1, h2, h3, _, _, h4⟩ := decNum_some (hb.drop _) hd
      rw [List.length_drop] at h4
      obtain ⟨h5, h6⟩ := h h0
      exact ⟨fun _ => ⟨take_add_drop h5 h1, by dsimp only; omega⟩, h2, h3⟩
    | error c => exact ⟨fun e => absurd e (show ¬ c = 0 from decNum_ne hd), by dsimp only; omega, by dsimp only; omega⟩
  · rename_i h0
    exact ⟨fun e => absurd e h0, by dsimp only; omega, by dsimp only; omega⟩
theorem Fit.text (h : Fit bs s E) (most : Int) (hm : 0 ≤ most) : Fit bs (rsText bs most s).1 (E ++ encText (rsText bs most s).2) ∧ ((rsText bs most s).2.size : Int) ≤ most := by
  unfold rsText
  split
  · rename_i h0
    cases hd : decNum (bs.drop s.at_) with
    | ok p =>
      obtain ⟨n, k⟩ := p
      obtain ⟨h1, h2, h3, _, _, h4⟩ := decNum_some (hb.drop _) hd
      rw [List.length_drop] at h4
      obtain ⟨h5, h6⟩ := h h0
      dsimp only
      split
      · exact ⟨fun e => absurd e (show ¬ (2 : Int) = 0 by decide), hm⟩
      · split
        · exact ⟨fun e => absurd e (show ¬ (3 : Int) = 0 by decide), hm⟩
        · rename_i h7 h8
          have hl : ((bs.drop (s.at_ + k)).take n.toNat).length = n.toNat := by rw [List.length_take, List.length_drop]; omega
          refine ⟨fun _ => ⟨?_, by dsimp only; omega⟩, by rw [textOf_size, hl]; omega⟩
          have h9 : encText (textOf ((bs.drop (s.at_ + k)).take n.toNat)) = encNum n ++ (bs.drop (s.at_ + k)).take n.toNat := by
            unfold encText
            rw [textOf_size, hl, bytesOf_textOf (fun x hx => hb x (List.drop_subset _ _ (List.take_subset _ _ hx)))]
            congr 2
            omega
          rw [h9, ← List.append_assoc]
          exact take_add_drop (take_add_drop h5 h1) rfl
    | error c => exact ⟨fun e => absurd e (show ¬ c = 0 from decNum_ne hd), hm⟩
  · rename_i h0
    exact ⟨fun e => absurd e h0, hm⟩
omit hb in
theorem Fit.many {α : Type} {f : Rs → Rs × α} {enc : α → List Int} {ok : α → Prop} (hf : ∀ (s : Rs) (E : List Int), Fit bs s E → Fit bs (f s).1 (E ++ enc (f s).2) ∧ ok (f s).2) :
    ∀ (k : Nat) (s : Rs) (E : List Int), Fit bs s E → Fit bs (rsMany f k s).1 (E ++ ((rsMany f k s).2.map enc).flatten) ∧ ∀ x ∈ (rsMany f k s).2, ok x
  | 0, s, E, h => ⟨by simpa [rsMany] using h, fun x hx => absurd hx (by simp [rsMany])⟩
  | k + 1, s, E, h => by
    obtain ⟨h1, h2⟩ := hf s E h
    obtain ⟨h3, h4⟩ := Fit.many hf k _ _ h1
    show Fit bs (rsMany f k (f s).1).1 (E ++ (((f s).2 :: (rsMany f k (f s).1).2).map enc).flatten) ∧ ∀ x ∈ (f s).2 :: (rsMany f k (f s).1).2, ok x
    rw [List.map_cons, List.flatten_cons, ← List.append_assoc]
    exact ⟨h3, fun x hx => by rcases List.mem_cons.1 hx with rfl | hx; exact h2; exact h4 x hx⟩
theorem Fit.nums (h : Fit bs s E) (most : Int) (hm : 0 ≤ most) : Fit bs (rsNums bs most s).1 (E ++ encNum (rsNums bs most s).2.length ++ ((rsNums bs most s).2.map encNum).flatten) ∧ ((rsNums bs most s).2.length : Int) ≤ most ∧ ∀ x ∈ (rsNums bs most s).2, 0 ≤ x ∧ x ≤ 9223372036854775807 := by
  have hn : ∀ x ∈ ([] : List Int), 0 ≤ x ∧ x ≤ 9223372036854775807 := fun x hx => absurd hx (by simp)
  unfold rsNums
  split
  · rename_i h0
    cases hd : decNum (bs.drop s.at_) with
    | ok p =>
      obtain ⟨n, k⟩ := p
      obtain ⟨h1, h2, h3, _, _, h4⟩ := decNum_some (hb.drop _) hd
      rw [List.length_drop] at h4
      obtain ⟨h5, h6⟩ := h h0
      dsimp only
      split
      · exact ⟨fun e => absurd e (show ¬ (2 : Int) = 0 by decide), by simpa using hm, hn⟩
      · split
        · rename_i h7 h8
          have h9 : Fit bs ⟨s.at_ + k, 0⟩ (E ++ encNum n) := fun _ => ⟨take_add_drop h5 h1, by dsimp only; omega⟩
          obtain ⟨h10, h11⟩ := Fit.many (ok := fun x => 0 ≤ x ∧ x ≤ 9223372036854775807) (fun s E h => Fit.num hb h) n.toNat _ _ h9
          rw [rsMany_len]
          rw [show ((n.toNat : Nat) : Int) = n by omega]
          exact ⟨h10, by omega, h11⟩
        · rename_i h7 h8
          exact ⟨fun e => absurd e h8, by simpa using hm, hn⟩
    | error c => exact ⟨fun e => absurd e (show ¬ c = 0 from decNum_ne hd), by simpa using hm, hn⟩
  · rename_i h0
    exact ⟨fun e => absurd e h0, by simpa using hm, hn⟩
end
/-! What was written is read; where it ends too soon, that is told. -/
/-- Bytes that begin with E, or are a beginning of it. -/
def Goes (bs : List Int) (s : Rs) (E : List Int) : Prop := (s.no = 0 ∧ s.at_ = E.length ∧ E <+: bs) ∨ (s.no = 3 ∧ bs.length < E.length)
/-- The bytes are of one row with E. -/
def Along (bs E : List Int) : Prop := E <+: bs ∨ bs <+: E
theorem Along.left {bs E e : List Int} (h : Along bs (E ++ e)) : Along bs E := by
  rcases h with h | h
  · exact .inl ((List.prefix_append E e).trans h)
  · rcases Nat.le_total E.length bs.length with h1 | h1
    · exact .inl (List.prefix_of_prefix_length_le (List.prefix_append E e) h h1)
    · exact .inr (List.prefix_of_prefix_length_le h (List.prefix_append E e) h1)
theorem Along.cases {bs E e : List Int} (h : Along bs (E ++ e)) : E ++ e <+: bs ∨ (bs <+: E ++ e ∧ bs.length < (E ++ e).length) := by
  rcases h with h | h
  · exact .inl h
  · rcases Nat.lt_or_ge bs.length (E ++ e).length with h1 | h1
    · exact .inr ⟨h, h1⟩
    · have := h.eq_of_length_le h1
      subst this
      exact .inl (List.prefix_refl _)
theorem drop_of_prefix {bs E e : List Int} (h : E ++ e <+: bs) : ∃ r, bs.drop E.length = e ++ r := by
  obtain ⟨r, rfl⟩ := h
  exact ⟨r, by rw [List.append_assoc, List.drop_left]⟩
theorem drop_cut {bs E e : List Int} (h1 : bs <+: E ++ e) (h2 : E <+: bs) : bs.drop E.length <+: e ∧ (bs.drop E.length).length = bs.length - E.length := by
  obtain ⟨r, rfl⟩ := h2
  rw [List.drop_left]
  refine ⟨?_, by rw [List.length_append]; omega⟩
  exact (List.prefix_append_right_inj E).1 h1
theorem Goes.start (bs : List Int) : Goes bs ⟨0, 0⟩ [] := .inl ⟨rfl, rfl, List.nil_prefix⟩
section
variable {bs : List Int} {s : Rs} {E : List Int}
theorem Goes.num (h : Goes bs s E) {n : Int} (h0 : 0 ≤ n) (h1 : n ≤ 9223372036854775807) (ha : Along bs (E ++ encNum n)) : Goes bs (rsNum bs s).1 (E ++ encNum n) ∧ ((rsNum bs s).1.no = 0 → (rsNum bs s).2 = n) := by
  rcases h with ⟨e1, e2, e3⟩ | ⟨e1, e2⟩
  · unfold rsNum
    rw [if_pos e1, e2]
    rcases ha.cases with h2 | ⟨h2, h3⟩
    · obtain ⟨r, hr⟩ := drop_of_prefix h2
      rw [hr, decNum_enc h0 h1]
      exact ⟨.inl ⟨rfl, by simp, h2⟩, fun _ => rfl⟩
    · obtain ⟨h4, h5⟩ := drop_cut h2 e3
      rw [decNum_cut h1 h4 (by rw [h5]; rw [List.length_append] at h3; have := e3.length_le; omega)]
      exact ⟨.inr ⟨rfl, h3⟩, fun e => absurd e (show ¬ (3 : Int) = 0 by decide)⟩
  · unfold rsNum
    rw [if_neg (by omega)]
    exact ⟨.inr ⟨e1, by rw [List.length_append]; omega⟩, fun e => absurd e (by dsimp only; omega)⟩
theorem Goes.text (h : Goes bs s E) {t : ByteArray} {most : Int} (h0 : (t.size : Int) ≤ most) (h1 : (t.size : Int) ≤ 9223372036854775807) (ha : Along bs (E ++ encText t)) : Goes bs (rsText bs most s).1 (E ++ encText t) ∧ ((rsText bs most s).1.no = 0 → (rsText bs most s).2 = t) := by
  unfold encText at ha ⊢
  rw [← List.append_assoc] at ha ⊢
  rcases h with ⟨e1, e2, e3⟩ | ⟨e1, e2⟩
  · unfold rsText
    rw [if_pos e1, e2]
    rcases ha.cases with h2 | ⟨h2, h3⟩
    · obtain ⟨r, hr⟩ := h2
      subst hr
      rw [List.append_assoc, List.append_assoc, List.drop_left, decNum_enc (by omega) h1]
      dsimp only
      have hl : (E ++ (encNum t.size ++ (bytesOf t ++ r))).length = E.length + (encNum t.size).length + t.size + r.length := by simp only [List.length_append, bytesOf_length]; omega
      rw [hl, if_neg (by omega), if_neg (by omega)]
      refine ⟨.inl ⟨rfl, ?_, ⟨r, by simp only [List.append_assoc]⟩⟩, fun _ => ?_⟩
      · simp only [List.length_append, bytesOf_length]
        omega
      · dsimp only
        rw [Int.toNat_natCast, ← List.append_assoc, show E.length + (encNum (t.size : Int)).length = (E ++ encNum (t.size : Int)).length by rw [List.length_append], List.drop_left, ← bytesOf_length t, List.take_left, textOf_bytesOf]
    · rcases (Along.left (.inr h2) : Along bs (E ++ encNum t.size)).cases with h4 | ⟨h4, h5⟩
      · obtain ⟨r, hr⟩ := drop_of_prefix h4
        rw [hr, decNum_enc (by omega) h1]
        dsimp only
        rw [List.length_append, List.length_append, bytesOf_length] at h3
        rw [if_neg (by omega), if_pos (by omega)]
        exact ⟨.inr ⟨rfl, by simp only [List.length_append, bytesOf_length]; omega⟩, fun e => absurd e (show ¬ (3 : Int) = 0 by decide)⟩
      · obtain ⟨h6, h7⟩ := drop_cut h4 e3
        rw [decNum_cut h1 h6 (by rw [h7]; rw [List.length_append] at h5; have := e3.length_le; omega)]
        exact ⟨.inr ⟨rfl, h3⟩, fun e => absurd e (show ¬ (3 : Int) = 0 by decide)⟩
  · unfold rsText
    rw [if_neg (by omega)]
    exact ⟨.inr ⟨e1, by simp only [List.length_append]; omega⟩, fun e => absurd e (by dsimp only; omega)⟩
theorem Goes.many {α : Type} {f : Rs → Rs × α} {enc : α → List Int} {ok : α → Prop} (hf : ∀ (s : Rs) (E : List Int) (x : α), Goes bs s E → ok x → Along bs (E ++ enc x) → Goes bs (f s).1 (E ++ enc x) ∧ ((f s).1.no = 0 → (f s).2 = x)) (hz : ∀ s, s.no ≠ 0 → (f s).1.no ≠ 0) :
    ∀ (l : List α) (s : Rs) (E : List Int), Goes bs s E → (∀ x ∈ l, ok x) → Along bs (E ++ (l.map enc).flatten) → Goes bs (rsMany f l.length s).1 (E ++ (l.map enc).flatten) ∧ ((rsMany f l.length s).1.no = 0 → (rsMany f l.length s).2 = l)
  | [], s, E, h, _, _ => ⟨by simpa [rsMany] using h, fun _ => rfl⟩
  | x :: l, s, E, h, hok, ha => by
    rw [List.map_cons, List.flatten_cons, ← List.append_assoc] at ha ⊢
    obtain ⟨h1, h2⟩ := hf s E x h (hok x (List.mem_cons_self ..)) ha.left
    obtain ⟨h3, h4⟩ := Goes.many hf hz l _ _ h1 (fun y hy => hok y (List.mem_cons_of_mem _ hy)) ha
    refine ⟨h3, fun e => ?_⟩
    have h5 : (f s).1.no = 0 := by
      rcases h1 with ⟨e1, _⟩ | ⟨e1, e2⟩
      · exact e1
      · exfalso
        rcases h3 with ⟨_, _, e3⟩ | ⟨e3, _⟩
        · have := e3.length_le
          rw [List.length_append] at this
          omega
        · have e' : (rsMany f l.length (f s).1).1.no = 0 := e
          omega
    show (f s).2 :: (rsMany f l.length (f s).1).2 = x :: l
    rw [h2 h5, h4 e]
theorem rsNum_stuck {s : Rs} (h : s.no ≠ 0) : rsNum bs s = (s, 0) := by unfold rsNum; rw [if_neg h]
theorem rsText_stuck {most : Int} {s : Rs} (h : s.no ≠ 0) : rsText bs most s = (s, ⟨#[]⟩) := by unfold rsText; rw [if_neg h]
theorem rsNums_stuck {most : Int} {s : Rs} (h : s.no ≠ 0) : rsNums bs most s = (s, []) := by unfold rsNums; rw [if_neg h]
theorem Goes.nums (h : Goes bs s E) {l : List Int} {most : Int} (h0 : (l.length : Int) ≤ most) (hl : (l.length : Int) ≤ 9223372036854775807) (h1 : ∀ x ∈ l, 0 ≤ x ∧ x ≤ 9223372036854775807) (ha : Along bs (E ++ encNum l.length ++ (l.map encNum).flatten)) :
    Goes bs (rsNums bs most s).1 (E ++ encNum l.length ++ (l.map encNum).flatten) ∧ ((rsNums bs most s).1.no = 0 → (rsNums bs most s).2 = l) := by
  rcases h with ⟨e1, e2, e3⟩ | ⟨e1, e2⟩
  · have hg : Goes bs s E := .inl ⟨e1, e2, e3⟩
    obtain ⟨h2, h3⟩ := hg.num (by omega) hl ha.left
    unfold rsNums
    unfold rsNum at h2 h3
    rw [if_pos e1] at h2 h3 ⊢
    cases hd : decNum (bs.drop s.at_) with
    | error c =>
      rw [hd] at h2
      dsimp only at h2 ⊢
      rcases h2 with ⟨e4, _⟩ | ⟨e4, e5⟩
      · exact absurd e4 (show ¬ c = 0 from decNum_ne hd)
      · dsimp only at e4
        subst e4
        exact ⟨.inr ⟨rfl, by rw [List.length_append]; omega⟩, fun e => absurd e (show ¬ (3 : Int) = 0 by decide)⟩
    | ok p =>
      obtain ⟨n, k⟩ := p
      rw [hd] at h2 h3
      dsimp only at h2 h3 ⊢
      have hn := h3 rfl
      subst hn
      obtain ⟨h4, h5⟩ := Goes.many (f := rsNum bs) (enc := encNum) (ok := fun x => 0 ≤ x ∧ x ≤ 9223372036854775807) (fun s E x hg hx hax => hg.num hx.1 hx.2 hax) (fun s hs => by rw [rsNum_stuck hs]; exact hs) l _ _ h2 h1 ha
      rw [if_neg (by omega), Int.toNat_natCast]
      split
      · exact ⟨h4, h5⟩
      · rename_i h6
        rcases h4 with ⟨e4, _⟩ | ⟨e4, e5⟩
        · exact absurd e4 h6
        · exact ⟨.inr ⟨e4, e5⟩, fun e => absurd e h6⟩
  · rw [rsNums_stuck (by omega)]
    exact ⟨.inr ⟨e1, by simp only [List.length_append]; omega⟩, fun e => absurd e (by dsimp only; omega)⟩
end
end Go.Proofs.Ytidjapjidihbpaa
set_option linter.unusedVariables false
set_option linter.unusedSimpArgs false
namespace Go.Proofs.Ytidjapjidihbpaa
open Go.RowKit Go.Proofs.YtidjapjidihbpaaW.PrintWords
/-! A command's bytes are read. -/
def nth (l : List Int) (k : Nat) : Int := (l[k]?).getD 0
def nthT (l : List ByteArray) (k : Nat) : ByteArray := (l[k]?).getD ⟨#[]⟩
/-- A command of what was read. -/
def Cm.of (l : List Int) (fifo : Int) (t b : List ByteArray) : Cm := ⟨nth l 0, nth l 1, nth l 2, nthT t 0, ⟨nth l 5, nth l 6, nth l 7, nth l 8, nth l 9, nthT t 1, decide (fifo = 1)⟩, nthT t 2, nthT t 3, nthT t 4, nthT t 5, b, nth l 3 - 1, nth l 4⟩
def rc1 (bs : List Int) := rsMany (rsNum bs) 10 ⟨0, 0⟩
def rc2 (bs : List Int) := rsNum bs (rc1 bs).1
def rc3 (bs : List Int) := rsMany (rsText bs 256) 6 (rc2 bs).1
def rc4 (bs : List Int) := rsNum bs (rc3 bs).1
def rc5 (bs : List Int) := rsMany (rsText bs 256) (min (rc4 bs).2 10).toNat (rc4 bs).1
def rcCmd (bs : List Int) : Cm := Cm.of (rc1 bs).2 (rc2 bs).2 (rc3 bs).2 (rc5 bs).2
def Cm.zero : Cm := ⟨0, 0, 0, ⟨#[]⟩, ⟨0, 0, 0, 0, 0, ⟨#[]⟩, false⟩, ⟨#[]⟩, ⟨#[]⟩, ⟨#[]⟩, ⟨#[]⟩, [], 0, 0⟩
/-- The command of bytes (none: nothing), and what is amiss. -/
def readCmd (bs : List Int) : Cm × Int :=
  if rsDone bs (rc5 bs).1 = 0 then (if cmRight (rcCmd bs) = true ∧ encCmd (rcCmd bs) = bs then (rcCmd bs, 0) else (.zero, 2)) else (.zero, rsDone bs (rc5 bs).1)
theorem rsDone_zero {bs : List Int} {s : Rs} (h : rsDone bs s = 0) : s.no = 0 ∧ bs.length ≤ s.at_ := by
  unfold rsDone at h
  split at h
  · cases h
  · exact ⟨h, by omega⟩
theorem list10 {l : List Int} (h : l.length = 10) : l = [nth l 0, nth l 1, nth l 2, nth l 3, nth l 4, nth l 5, nth l 6, nth l 7, nth l 8, nth l 9] := by
  match l, h with
  | [_, _, _, _, _, _, _, _, _, _], _ => rfl
theorem list6 {l : List ByteArray} (h : l.length = 6) : l = [nthT l 0, nthT l 1, nthT l 2, nthT l 3, nthT l 4, nthT l 5] := by
  match l, h with
  | [_, _, _, _, _, _], _ => rfl
theorem Cm.of_nums {l : List Int} (h : l.length = 10) (f : Int) (t b : List ByteArray) : (Cm.of l f t b).nums ((Cm.of l f t b).n + 1) = l := by
  conv => rhs; rw [list10 h]
  unfold Cm.nums Cm.of
  dsimp only
  rw [show nth l 3 - 1 + 1 = nth l 3 by omega]
theorem Cm.of_texts {t : List ByteArray} (h : t.length = 6) (l : List Int) (f : Int) (b : List ByteArray) : (Cm.of l f t b).texts = t := by
  conv => rhs; rw [list6 h]
  rfl
/-- All that was read is as it would be written. -/
theorem rc_fit {bs : List Int} (hb : ByOk bs) : Fit bs (rc5 bs).1 (((rc1 bs).2.map encNum).flatten ++ encNum (rc2 bs).2 ++ ((rc3 bs).2.map encText).flatten ++ encNum (rc4 bs).2 ++ ((rc5 bs).2.map encText).flatten) ∧ 0 ≤ (rc2 bs).2 ∧ 0 ≤ (rc4 bs).2 := by
  obtain ⟨h1, _⟩ := Fit.many (ok := fun x => 0 ≤ x ∧ x ≤ 9223372036854775807) (fun s E h => Fit.num hb h) 10 _ _ (Fit.start bs)
  obtain ⟨h2, h2a, _⟩ := Fit.num hb h1
  obtain ⟨h3, _⟩ := Fit.many (ok := fun x : ByteArray => (x.size : Int) ≤ 256) (fun s E h => Fit.text hb h 256 (by decide)) 6 _ _ h2
  obtain ⟨h4, h4a, _⟩ := Fit.num hb h3
  obtain ⟨h5, _⟩ := Fit.many (ok := fun x : ByteArray => (x.size : Int) ≤ 256) (fun s E h => Fit.text hb h 256 (by decide)) (min (rc4 bs).2 10).toNat _ _ h4
  rw [List.nil_append] at h5
  exact ⟨h5, h2a, h4a⟩
theorem encCmd_of (l : List Int) (hl : l.length = 10) (f : Int) (t b : List ByteArray) (ht : t.length = 6) : encCmd (Cm.of l f t b) = (l.map encNum).flatten ++ encNum (if f = 1 then 1 else 0) ++ (t.map encText).flatten ++ encNum b.length ++ (b.map encText).flatten := by
  unfold encCmd encMid encHead
  rw [Cm.of_nums hl, Cm.of_texts ht]
  congr 5
  unfold encFifo Cm.of
  dsimp only
  by_cases h : f = 1
  · rw [if_pos h, h]; rfl
  · rw [if_neg h, if_neg (by simpa using h)]
theorem rc_len1 (bs : List Int) : (rc1 bs).2.length = 10 := rsMany_len _ _ _
theorem rc_len3 (bs : List Int) : (rc3 bs).2.length = 6 := rsMany_len _ _ _
theorem rc_len5 (bs : List Int) : (rc5 bs).2.length = (min (rc4 bs).2 10).toNat := rsMany_len _ _ _
/-- The document's way to tell that they are right is the program's. -/
theorem read_ref {bs : List Int} (hb : ByOk bs) (h : rsDone bs (rc5 bs).1 = 0) : (cmRight (rcCmd bs) = true ∧ encCmd (rcCmd bs) = bs) ↔ ((rc2 bs).2 ≤ 1 ∧ (rc4 bs).2 ≤ 10 ∧ cmRight (rcCmd bs) = true) := by
  obtain ⟨hf, h2, h4⟩ := rc_fit hb
  obtain ⟨h5, h6⟩ := rsDone_zero h
  obtain ⟨h7, h8⟩ := hf h5
  rw [show (rc5 bs).1.at_ = bs.length by omega, List.take_length] at h7
  have he := encCmd_of (rc1 bs).2 (rc_len1 bs) (rc2 bs).2 (rc3 bs).2 (rc5 bs).2 (rc_len3 bs)
  have hl := rc_len5 bs
  constructor
  · rintro ⟨hr, hE⟩
    refine ⟨?_, ?_, hr⟩
    · unfold rcCmd at hE
      rw [he] at hE
      have hE := hE.trans h7
      simp only [List.append_assoc] at hE
      have hE := List.append_cancel_left hE
      obtain ⟨h9, _⟩ := encNum_inj (by split <;> omega) h2 hE
      rw [← h9]
      split <;> omega
    · unfold rcCmd at hE
      rw [he] at hE
      have hE := hE.trans h7
      by_cases hfo : (rc2 bs).2 = 1 ∨ (rc2 bs).2 = 0
      · rw [show (if (rc2 bs).2 = 1 then (1 : Int) else 0) = (rc2 bs).2 by split <;> omega] at hE
        simp only [List.append_assoc] at hE
        have hE := List.append_cancel_left hE
        have hE := List.append_cancel_left hE
        have hE := List.append_cancel_left hE
        obtain ⟨h9, _⟩ := encNum_inj (by omega) h4 hE
        rw [hl] at h9
        omega
      · exfalso
        simp only [List.append_assoc] at hE
        have hE := List.append_cancel_left hE
        obtain ⟨h9, _⟩ := encNum_inj (by split <;> omega) h2 hE
        split at h9 <;> omega
  · rintro ⟨h9, h10, hr⟩
    refine ⟨hr, ?_⟩
    unfold rcCmd
    rw [he, hl]
    rw [show (if (rc2 bs).2 = 1 then (1 : Int) else 0) = (rc2 bs).2 by split <;> omega, show (((min (rc4 bs).2 10).toNat : Nat) : Int) = (rc4 bs).2 by omega]
    exact h7.symm
/-- Bytes that begin as a command's, or are a beginning of these. -/
theorem rc_goes {c : Cm} (hc : cmRight c = true) {bs : List Int} (ha : Along bs (encCmd c)) : Goes bs (rc5 bs).1 (encCmd c) ∧ ((rc5 bs).1.no = 0 → rcCmd bs = c) := by
  obtain ⟨c1, c2, c3, c4, c5⟩ := right_parts hc
  have hnum : ∀ (s : Rs) (E : List Int) (x : Int), Goes bs s E → (0 ≤ x ∧ x ≤ 9223372036854775807) → Along bs (E ++ encNum x) → Goes bs (rsNum bs s).1 (E ++ encNum x) ∧ ((rsNum bs s).1.no = 0 → (rsNum bs s).2 = x) := fun s E x hg hx hax => hg.num hx.1 hx.2 hax
  have htext : ∀ (s : Rs) (E : List Int) (x : ByteArray), Goes bs s E → (x.size ≤ 256) → Along bs (E ++ encText x) → Goes bs (rsText bs 256 s).1 (E ++ encText x) ∧ ((rsText bs 256 s).1.no = 0 → (rsText bs 256 s).2 = x) := fun s E x hg hx hax => hg.text (by omega) (by omega) hax
  have hz1 : ∀ s : Rs, s.no ≠ 0 → (rsNum bs s).1.no ≠ 0 := fun s hs => by rw [rsNum_stuck hs]; exact hs
  have hz2 : ∀ s : Rs, s.no ≠ 0 → (rsText bs 256 s).1.no ≠ 0 := fun s hs => by rw [rsText_stuck hs]; exact hs
  have hzm : ∀ {α : Type} {f : Rs → Rs × α}, (∀ s : Rs, s.no ≠ 0 → (f s).1.no ≠ 0) → ∀ (k : Nat) (s : Rs), s.no ≠ 0 → (rsMany f k s).1.no ≠ 0 := by
    intro α f hf k
    induction k with
    | zero => exact fun s hs => hs
    | succ k ih => exact fun s hs => ih _ (hf s hs)
  unfold encCmd encMid encHead at ha ⊢
  have a4 := ha.left
  have a3 := a4.left
  have a2 := a3.left
  have a1 := a2.left
  obtain ⟨g1, v1⟩ := Goes.many hnum hz1 (c.nums (c.n + 1)) _ _ (Goes.start bs) (fun x hx => ⟨(c2 x hx).1, by have := (c2 x hx).2; omega⟩) a1
  rw [List.nil_append] at g1
  have e10 : (c.nums (c.n + 1)).length = 10 := rfl
  have e6 : c.texts.length = 6 := rfl
  rw [e10] at g1 v1
  have hf : 0 ≤ encFifo c.a ∧ encFifo c.a ≤ 9223372036854775807 := by unfold encFifo; split <;> omega
  obtain ⟨g2, v2⟩ := hnum _ _ _ g1 hf a2
  obtain ⟨g3, v3⟩ := Goes.many htext hz2 c.texts _ _ g2 c3 a3
  rw [e6] at g3 v3
  obtain ⟨g4, v4⟩ := hnum _ _ (c.bodies.length : Int) g3 ⟨by omega, by omega⟩ a4
  by_cases h4 : (rc4 bs).1.no = 0
  · have e4 : (rc4 bs).2 = c.bodies.length := v4 h4
    have e5 : (min (rc4 bs).2 10).toNat = c.bodies.length := by rw [e4]; omega
    obtain ⟨g5, v5⟩ := Goes.many htext hz2 c.bodies _ _ g4 c5 ha
    unfold rcCmd
    have h5 : rc5 bs = rsMany (rsText bs 256) c.bodies.length (rc4 bs).1 := by unfold rc5; rw [e5]
    rw [h5]
    refine ⟨g5, fun e => ?_⟩
    have h3 : (rc3 bs).1.no = 0 := Decidable.byContradiction fun h => hz1 _ h h4
    have h2 : (rc2 bs).1.no = 0 := Decidable.byContradiction fun h => hzm hz2 6 _ h h3
    have h1 : (rc1 bs).1.no = 0 := Decidable.byContradiction fun h => hz1 _ h h2
    have w1 : (rc1 bs).2 = _ := v1 h1
    have w2 : (rc2 bs).2 = _ := v2 h2
    have w3 : (rc3 bs).2 = _ := v3 h3
    have w5 := v5 e
    show Cm.of (rc1 bs).2 (rc2 bs).2 (rc3 bs).2 (rsMany (rsText bs 256) c.bodies.length (rc4 bs).1).2 = c
    rw [w1, w2, w3]
    rw [show (rsMany (rsText bs 256) c.bodies.length (rc4 bs).1).2 = c.bodies from w5]
    unfold encFifo
    obtain ⟨client, req, kind, queue, ⟨vis, ret, del, win, max, dead, fifo⟩, body, group, key, receipt, bodies, n, m⟩ := c
    show Cm.mk client req kind queue ⟨vis, ret, del, win, max, dead, _⟩ body group key receipt bodies (n + 1 - 1) m = _
    rw [show n + 1 - 1 = n by omega]
    congr 2
    cases fifo <;> simp
  · have h5 : (rc5 bs).1.no ≠ 0 := hzm hz2 _ _ h4
    refine ⟨.inr ⟨?_, ?_⟩, fun e => absurd e h5⟩
    · rcases g4 with ⟨e, _⟩ | ⟨e, _⟩
      · exact absurd e h4
      · have : rc5 bs = ((rc4 bs).1, (rc5 bs).2) := by
          have hst : ∀ (k : Nat), (rsMany (rsText bs 256) k (rc4 bs).1).1 = (rc4 bs).1 := by
            intro k
            induction k with
            | zero => rfl
            | succ k ih =>
              show (rsMany (rsText bs 256) k (rsText bs 256 (rc4 bs).1).1).1 = _
              rw [rsText_stuck h4]
              exact ih
          exact Prod.ext (hst _) rfl
        rw [this]
        exact e
    · rcases g4 with ⟨e, _⟩ | ⟨_, e⟩
      · exact absurd e h4
      · rw [List.length_append]
        omega
theorem encCmd_ok (c : Cm) : ByOk (encCmd c) := by
  have h1 : ∀ {α : Type} {f : α → List Int}, (∀ x, ByOk (f x)) → ∀ l : List α, ByOk ((l.map f).flatten) := by
    intro α f hf l x hx
    obtain ⟨y, hy, hx⟩ := List.mem_flatten.1 hx
    obtain ⟨z, _, rfl⟩ := List.mem_map.1 hy
    exact hf z x hx
  have h2 : ∀ {a b : List Int}, ByOk a → ByOk b → ByOk (a ++ b) := fun ha hb x hx => by
    rcases List.mem_append.1 hx with h | h
    · exact ha x h
    · exact hb x h
  have h3 : ∀ s, ByOk (encText s) := fun s => h2 (encNat_ok _) (bytesOf_ok s)
  unfold encCmd encMid encHead
  exact h2 (h2 (h2 (h2 (h1 (fun x => encNat_ok _) _) (encNat_ok _)) (h1 h3 _)) (encNat_ok _)) (h1 h3 _)
theorem read_enc {c : Cm} (hc : cmRight c = true) : readCmd (encCmd c) = (c, 0) := by
  obtain ⟨h1, h2⟩ := rc_goes hc (.inl (List.prefix_refl _))
  rcases h1 with ⟨e1, e2, _⟩ | ⟨_, e2⟩
  · unfold readCmd
    rw [if_pos (by unfold rsDone; rw [if_neg (by omega)]; exact e1), h2 e1, if_pos ⟨hc, rfl⟩]
  · omega
theorem read_cut {c : Cm} (hc : cmRight c = true) {p : List Int} (hp : p <+: encCmd c) (hl : p.length < (encCmd c).length) : readCmd p = (.zero, 3) := by
  obtain ⟨h1, _⟩ := rc_goes hc (.inr hp)
  rcases h1 with ⟨_, _, e3⟩ | ⟨e1, _⟩
  · have := e3.length_le
    omega
  · have hd : rsDone p (rc5 p).1 = 3 := by unfold rsDone; rw [if_neg (by omega)]; exact e1
    unfold readCmd
    rw [hd, if_neg (by decide)]
theorem read_more {c : Cm} (hc : cmRight c = true) (r : List Int) (hr : 0 < r.length) : readCmd (encCmd c ++ r) = (.zero, 2) := by
  obtain ⟨h1, _⟩ := rc_goes hc (.inl (List.prefix_append (encCmd c) r))
  rcases h1 with ⟨e1, e2, _⟩ | ⟨_, e2⟩
  · have hd : rsDone (encCmd c ++ r) (rc5 (encCmd c ++ r)).1 = 2 := by unfold rsDone; rw [if_pos ⟨e1, by rw [List.length_append]; omega⟩]
    unfold readCmd
    rw [hd, if_neg (by decide)]
  · rw [List.length_append] at e2
    omega
theorem read_code (bs : List Int) : (readCmd bs).2 = 0 ∨ (readCmd bs).1 = .zero := by
  unfold readCmd
  split
  · split
    · exact .inl rfl
    · exact .inr rfl
  · exact .inr rfl
theorem read_write {bs : List Int} (h : (readCmd bs).2 = 0) : cmRight (readCmd bs).1 = true ∧ encCmd (readCmd bs).1 = bs := by
  unfold readCmd at h ⊢
  split
  · rename_i h1
    rw [if_pos h1] at h
    split
    · rename_i h2
      exact h2
    · rename_i h2
      rw [if_neg h2] at h
      exact absurd h (show ¬ (2 : Int) = 0 by decide)
  · rename_i h1
    rw [if_neg h1] at h
    exact absurd h h1
end Go.Proofs.Ytidjapjidihbpaa
set_option linter.unusedVariables false
set_option linter.unusedSimpArgs false
namespace Go.Proofs.Ytidjapjidihbpaa
open Go.RowKit Go.Proofs.YtidjapjidihbpaaW.PrintWords
/-! An answer's bytes. -/
/-- A message that was received: number, count, receipt, body, group. -/
abbrev Tk := Int × (Int × (ByteArray × (ByteArray × ByteArray)))
/-- An answer. -/
structure An where
  code : Int
  ids : List Int
  took : List Tk
def tkRight (x : Tk) : Bool := okNum x.1 && (okNum x.2.1 && (okText x.2.2.1 && (okText x.2.2.2.1 && okText x.2.2.2.2)))
def anRight (a : An) : Bool := okNum a.code && (decide (a.ids.length ≤ 10) && (decide (a.took.length ≤ 10) && (a.ids.all okNum && a.took.all tkRight)))
def encTook (x : Tk) : List Int := encNum x.1 ++ encNum x.2.1 ++ encText x.2.2.1 ++ encText x.2.2.2.1 ++ encText x.2.2.2.2
def encAns (a : An) : List Int := encNum a.code ++ encNum a.ids.length ++ (a.ids.map encNum).flatten ++ encNum a.took.length ++ (a.took.map encTook).flatten
/-- A message that is read. -/
def rt1 (bs : List Int) (s : Rs) := rsNum bs s
def rt2 (bs : List Int) (s : Rs) := rsNum bs (rt1 bs s).1
def rt3 (bs : List Int) (s : Rs) := rsText bs 256 (rt2 bs s).1
def rt4 (bs : List Int) (s : Rs) := rsText bs 256 (rt3 bs s).1
def rt5 (bs : List Int) (s : Rs) := rsText bs 256 (rt4 bs s).1
def rsTook (bs : List Int) (s : Rs) : Rs × Tk := ((rt5 bs s).1, ⟨(rt1 bs s).2, (rt2 bs s).2, (rt3 bs s).2, (rt4 bs s).2, (rt5 bs s).2⟩)
def ra1 (bs : List Int) := rsNum bs ⟨0, 0⟩
def ra2 (bs : List Int) := rsNums bs 10 (ra1 bs).1
def ra3 (bs : List Int) := rsNum bs (ra2 bs).1
def ra4 (bs : List Int) := rsMany (rsTook bs) (min (ra3 bs).2 10).toNat (ra3 bs).1
def raAns (bs : List Int) : An := ⟨(ra1 bs).2, (ra2 bs).2, (ra4 bs).2⟩
def An.zero : An := ⟨0, [], []⟩
def readAns (bs : List Int) : An × Int :=
  if rsDone bs (ra4 bs).1 = 0 then (if anRight (raAns bs) = true ∧ encAns (raAns bs) = bs then (raAns bs, 0) else (.zero, 2)) else (.zero, rsDone bs (ra4 bs).1)
theorem Fit.took {bs : List Int} (hb : ByOk bs) {s : Rs} {E : List Int} (h : Fit bs s E) : Fit bs (rsTook bs s).1 (E ++ encTook (rsTook bs s).2) ∧ True := by
  obtain ⟨h1, _⟩ := Fit.num hb h
  obtain ⟨h2, _⟩ := Fit.num hb h1
  obtain ⟨h3, _⟩ := Fit.text hb h2 256 (by decide)
  obtain ⟨h4, _⟩ := Fit.text hb h3 256 (by decide)
  obtain ⟨h5, _⟩ := Fit.text hb h4 256 (by decide)
  unfold encTook
  simp only [← List.append_assoc]
  exact ⟨h5, trivial⟩
theorem ra_fit {bs : List Int} (hb : ByOk bs) : Fit bs (ra4 bs).1 (encNum (ra1 bs).2 ++ encNum (ra2 bs).2.length ++ ((ra2 bs).2.map encNum).flatten ++ encNum (ra3 bs).2 ++ ((ra4 bs).2.map encTook).flatten) ∧ 0 ≤ (ra3 bs).2 := by
  obtain ⟨h1, _⟩ := Fit.num hb (Fit.start bs)
  obtain ⟨h2, _⟩ := Fit.nums hb h1 10 (by decide)
  obtain ⟨h3, h3a, _⟩ := Fit.num hb h2
  obtain ⟨h4, _⟩ := Fit.many (ok := fun _ => True) (fun s E h => Fit.took hb h) (min (ra3 bs).2 10).toNat _ _ h3
  rw [List.nil_append] at h4
  exact ⟨h4, h3a⟩
theorem ra_len4 (bs : List Int) : (ra4 bs).2.length = (min (ra3 bs).2 10).toNat := rsMany_len _ _ _
theorem readA_ref {bs : List Int} (hb : ByOk bs) (h : rsDone bs (ra4 bs).1 = 0) : (anRight (raAns bs) = true ∧ encAns (raAns bs) = bs) ↔ ((ra3 bs).2 ≤ 10 ∧ anRight (raAns bs) = true) := by
  obtain ⟨hf, h3⟩ := ra_fit hb
  obtain ⟨h5, h6⟩ := rsDone_zero h
  obtain ⟨h7, h8⟩ := hf h5
  rw [show (ra4 bs).1.at_ = bs.length by omega, List.take_length] at h7
  have hl := ra_len4 bs
  have he : encAns (raAns bs) = encNum (ra1 bs).2 ++ encNum (ra2 bs).2.length ++ ((ra2 bs).2.map encNum).flatten ++ encNum ((ra4 bs).2.length : Nat) ++ ((ra4 bs).2.map encTook).flatten := rfl
  constructor
  · rintro ⟨hr, hE⟩
    refine ⟨?_, hr⟩
    rw [he] at hE
    have hE := hE.trans h7
    simp only [List.append_assoc] at hE
    have hE := List.append_cancel_left hE
    have hE := List.append_cancel_left hE
    have hE := List.append_cancel_left hE
    obtain ⟨h9, _⟩ := encNum_inj (by omega) h3 hE
    rw [hl] at h9
    omega
  · rintro ⟨h10, hr⟩
    refine ⟨hr, ?_⟩
    rw [he, hl, show (((min (ra3 bs).2 10).toNat : Nat) : Int) = (ra3 bs).2 by omega]
    exact h7.symm
theorem an_parts {a : An} (h : anRight a = true) : (0 ≤ a.code ∧ a.code ≤ 4611686018427387904) ∧ a.ids.length ≤ 10 ∧ a.took.length ≤ 10 ∧ (∀ v ∈ a.ids, 0 ≤ v ∧ v ≤ 4611686018427387904) ∧ ∀ x ∈ a.took, (0 ≤ x.1 ∧ x.1 ≤ 4611686018427387904) ∧ (0 ≤ x.2.1 ∧ x.2.1 ≤ 4611686018427387904) ∧ x.2.2.1.size ≤ 256 ∧ x.2.2.2.1.size ≤ 256 ∧ x.2.2.2.2.size ≤ 256 := by
  unfold anRight at h
  simp only [Bool.and_eq_true, decide_eq_true_iff, List.all_eq_true, okNum, okText, tkRight] at h
  exact ⟨h.1, h.2.1, h.2.2.1, h.2.2.2.1, h.2.2.2.2⟩
def TkOk (x : Tk) : Prop := (0 ≤ x.1 ∧ x.1 ≤ 4611686018427387904) ∧ (0 ≤ x.2.1 ∧ x.2.1 ≤ 4611686018427387904) ∧ x.2.2.1.size ≤ 256 ∧ x.2.2.2.1.size ≤ 256 ∧ x.2.2.2.2.size ≤ 256
theorem stuckText {bs : List Int} {s : Rs} (h : s.no ≠ 0) : (rsText bs 256 s).1.no ≠ 0 := by rw [rsText_stuck h]; exact h
theorem stuckNum {bs : List Int} {s : Rs} (h : s.no ≠ 0) : (rsNum bs s).1.no ≠ 0 := by rw [rsNum_stuck h]; exact h
theorem stuckNums {bs : List Int} {m : Int} {s : Rs} (h : s.no ≠ 0) : (rsNums bs m s).1.no ≠ 0 := by rw [rsNums_stuck h]; exact h
theorem tookAt {bs : List Int} {s : Rs} (h : s.no ≠ 0) : (rsTook bs s).1 = s := by
  have e1 : (rt1 bs s).1 = s := by unfold rt1; rw [rsNum_stuck h]
  have e2 : (rt2 bs s).1 = s := by unfold rt2; rw [e1, rsNum_stuck h]
  have e3 : (rt3 bs s).1 = s := by unfold rt3; rw [e2, rsText_stuck h]
  have e4 : (rt4 bs s).1 = s := by unfold rt4; rw [e3, rsText_stuck h]
  have e5 : (rt5 bs s).1 = s := by unfold rt5; rw [e4, rsText_stuck h]
  exact e5
theorem Goes.took {bs : List Int} {s : Rs} {E : List Int} (h : Goes bs s E) {x : Tk} (hx : TkOk x) (ha : Along bs (E ++ encTook x)) : Goes bs (rsTook bs s).1 (E ++ encTook x) ∧ ((rsTook bs s).1.no = 0 → (rsTook bs s).2 = x) := by
  obtain ⟨x1, x2, x3, x4, x5⟩ := hx
  unfold encTook at ha ⊢
  simp only [← List.append_assoc] at ha ⊢
  have a4 := ha.left
  have a3 := a4.left
  have a2 := a3.left
  have a1 := a2.left
  obtain ⟨g1, v1⟩ := h.num x1.1 (by omega) a1
  obtain ⟨g2, v2⟩ := g1.num x2.1 (by omega) a2
  obtain ⟨g3, v3⟩ := g2.text (most := 256) (by omega) (by omega) a3
  obtain ⟨g4, v4⟩ := g3.text (most := 256) (by omega) (by omega) a4
  obtain ⟨g5, v5⟩ := g4.text (most := 256) (by omega) (by omega) ha
  refine ⟨g5, fun e => ?_⟩
  have n5 : (rt5 bs s).1.no = 0 := e
  have n4 : (rt4 bs s).1.no = 0 := Decidable.byContradiction fun h => stuckText h n5
  have n3 : (rt3 bs s).1.no = 0 := Decidable.byContradiction fun h => stuckText h n4
  have n2 : (rt2 bs s).1.no = 0 := Decidable.byContradiction fun h => stuckText h n3
  have n1 : (rt1 bs s).1.no = 0 := Decidable.byContradiction fun h => stuckNum h n2
  show ((rt1 bs s).2, ((rt2 bs s).2, ((rt3 bs s).2, ((rt4 bs s).2, (rt5 bs s).2)))) = x
  rw [show (rt1 bs s).2 = x.1 from v1 n1, show (rt2 bs s).2 = x.2.1 from v2 n2, show (rt3 bs s).2 = x.2.2.1 from v3 n3, show (rt4 bs s).2 = x.2.2.2.1 from v4 n4, show (rt5 bs s).2 = x.2.2.2.2 from v5 n5]
theorem ra_goes {a : An} (hc : anRight a = true) {bs : List Int} (ha : Along bs (encAns a)) : Goes bs (ra4 bs).1 (encAns a) ∧ ((ra4 bs).1.no = 0 → raAns bs = a) := by
  obtain ⟨c1, c2, c3, c4, c5⟩ := an_parts hc
  unfold encAns at ha ⊢
  have a4 := ha.left
  have a3 := a4.left
  have a1 := a3.left.left
  obtain ⟨g1, v1⟩ := (Goes.start bs).num c1.1 (by omega) a1
  rw [List.nil_append] at g1
  obtain ⟨g2, v2⟩ := g1.nums (most := 10) (by omega) (by omega) (fun x hx => ⟨(c4 x hx).1, by have := (c4 x hx).2; omega⟩) a3
  obtain ⟨g3, v3⟩ := g2.num (n := (a.took.length : Int)) (by omega) (by omega) a4
  by_cases h3 : (ra3 bs).1.no = 0
  · have e3 : (ra3 bs).2 = a.took.length := v3 h3
    obtain ⟨g4, v4⟩ := Goes.many (f := rsTook bs) (enc := encTook) (ok := TkOk) (fun s E x hg hx hax => hg.took hx hax) (fun s hs => by rw [tookAt hs]; exact hs) a.took _ _ g3 c5 ha
    have h4 : ra4 bs = rsMany (rsTook bs) a.took.length (ra3 bs).1 := by unfold ra4; rw [e3, show (min (a.took.length : Int) 10).toNat = a.took.length by omega]
    unfold raAns
    rw [h4]
    refine ⟨g4, fun e => ?_⟩
    have n2 : (ra2 bs).1.no = 0 := Decidable.byContradiction fun h => stuckNum h h3
    have n1 : (ra1 bs).1.no = 0 := Decidable.byContradiction fun h => stuckNums h n2
    rw [show (ra1 bs).2 = a.code from v1 n1, show (ra2 bs).2 = a.ids from v2 n2, show (rsMany (rsTook bs) a.took.length (ra3 bs).1).2 = a.took from v4 e]
  · have hst : ∀ (k : Nat), (rsMany (rsTook bs) k (ra3 bs).1).1 = (ra3 bs).1 := by
      intro k
      induction k with
      | zero => rfl
      | succ k ih =>
        show (rsMany (rsTook bs) k (rsTook bs (ra3 bs).1).1).1 = _
        rw [tookAt h3]
        exact ih
    have h4 : (ra4 bs).1 = (ra3 bs).1 := hst _
    rw [h4]
    rcases g3 with ⟨e, _⟩ | ⟨e, e2⟩
    · exact absurd e h3
    · exact ⟨.inr ⟨e, by rw [List.length_append]; exact Nat.lt_of_lt_of_le e2 (Nat.le_add_right _ _)⟩, fun e => absurd e h3⟩
theorem readA_enc {a : An} (hc : anRight a = true) : readAns (encAns a) = (a, 0) := by
  obtain ⟨h1, h2⟩ := ra_goes hc (.inl (List.prefix_refl _))
  rcases h1 with ⟨e1, e2, _⟩ | ⟨_, e2⟩
  · unfold readAns
    rw [if_pos (by unfold rsDone; rw [if_neg (by omega)]; exact e1), h2 e1, if_pos ⟨hc, rfl⟩]
  · omega
theorem readA_write {bs : List Int} (h : (readAns bs).2 = 0) : anRight (readAns bs).1 = true ∧ encAns (readAns bs).1 = bs := by
  unfold readAns at h ⊢
  split
  · rename_i h1
    rw [if_pos h1] at h
    split
    · rename_i h2
      exact h2
    · rename_i h2
      rw [if_neg h2] at h
      exact absurd h (show ¬ (2 : Int) = 0 by decide)
  · rename_i h1
    rw [if_neg h1] at h
    exact absurd h h1
end Go.Proofs.Ytidjapjidihbpaa
set_option linter.unusedVariables false
set_option linter.unusedSimpArgs false
namespace Go.Proofs.Ytidjapjidihbpaa
open Go.RowKit Go.Proofs.YtidjapjidihbpaaW.PrintWords
/-- Why a reader does not go on, as it lies in memory. -/
def AErr (v : Value) (s : Rs) : Asn where
  pred w S := (s.no = 0 ∧ v = .nilIface) ∨ (s.no ≠ 0 ∧ ∃ fb, v = .iface 78 (.pointer (some ⟨fb, 0, none⟩)) ∧ S fb ∧ w.heap[fb]? = some (fault s.at_ s.no))
  mono h hm := by
    rcases h with h | ⟨h1, fb, h2, h3, h4⟩
    · exact .inl h
    · exact .inr ⟨h1, fb, h2, hm fb h3 (Array.getElem?_eq_some_iff.1 h4).1, h4⟩
  move h hm := by
    rcases h with h | ⟨h1, fb, h2, h3, h4⟩
    · exact .inl h
    · exact .inr ⟨h1, fb, h2, h3, (hm fb h3 (Array.getElem?_eq_some_iff.1 h4).1).trans h4⟩
def rdCells (v : Value) (A : Option Addr) (n c : Nat) (s : Rs) : Array Value := #[.int .i64 s.at_, v, .slice A n c]
/-- A reader (its block rb) of bytes bs that is at s. -/
def ARd (rb : Nat) (bs : List Int) (s : Rs) : Asn := AEx (fun p : Value × (Option Addr × Nat) => AIf (s.at_ ≤ bs.length ∧ bs.length ≤ 1000000 ∧ ByOk bs) (AStar [ABlk rb (.cells (rdCells p.1 p.2.1 bs.length p.2.2 s) 86 (0, 0)), ABy (.slice p.2.1 bs.length p.2.2) bs, AErr p.1 s]))
section
variable {w0 w : World} {rb : Nat} {bs : List Int} {s : Rs} {Ps : List Asn}
theorem Hp.rdOpen (h : Hp w0 w (ARd rb bs s :: Ps)) : ∃ v A c, (s.at_ ≤ bs.length ∧ bs.length ≤ 1000000 ∧ ByOk bs) ∧ Hp w0 w (ABlk rb (.cells (rdCells v A bs.length c s) 86 (0, 0)) :: ABy (.slice A bs.length c) bs :: AErr v s :: Ps) := by
  obtain ⟨⟨v, A, c⟩, h⟩ := h.unex
  obtain ⟨h1, h⟩ := h.unif
  exact ⟨v, A, c, h1, h.unstar⟩
theorem Hp.rdShut {v : Value} {A : Option Addr} {c : Nat} (h1 : s.at_ ≤ bs.length ∧ bs.length ≤ 1000000 ∧ ByOk bs) (h : Hp w0 w (ABlk rb (.cells (rdCells v A bs.length c s) 86 (0, 0)) :: ABy (.slice A bs.length c) bs :: AErr v s :: Ps)) : Hp w0 w (ARd rb bs s :: Ps) :=
  Hp.ex (v, A, c) (Hp.if_ h1 (Hp.star (Qs := [_, _, _]) h))
theorem Hp.errCases {v : Value} (h : Hp w0 w (AErr v s :: Ps)) : (s.no = 0 ∧ v = .nilIface) ∨ (s.no ≠ 0 ∧ ∃ fb, v = .iface 78 (.pointer (some ⟨fb, 0, none⟩)) ∧ w.heap[fb]? = some (fault s.at_ s.no)) := by
  rcases (h.head : (AErr v s).pred _ _) with h | ⟨h1, fb, h2, h3, h4⟩
  · exact .inl h
  · exact .inr ⟨h1, fb, h2, h4⟩
theorem Hp.errNone (h : Hp w0 w Ps) (s : Rs) (hs : s.no = 0) : Hp w0 w (AErr .nilIface s :: Ps) := h.fresh (Below.refl _ _) (.inl ⟨hs, rfl⟩)
theorem blk3c {w : World} {g t : Nat} {x0 x1 x2 : Value} (h : w.heap[g]? = some (.cells #[x0, x1, x2] t (0, 0))) :
    w.cell? ⟨g, 0, none⟩ = some x0 ∧ w.cell? ⟨g, 1, none⟩ = some x1 ∧ w.cell? ⟨g, 2, none⟩ = some x2 ∧ ∀ i, w.frozen? ⟨g, i, none⟩ = false :=
  ⟨blk_cell h 0, blk_cell h 1, blk_cell h 2, fun i => blk_frozen h _⟩
theorem byte_in {x : Int} (h : 0 ≤ x ∧ x < 256) : True := trivial
theorem Hp.errOf {fb at_ : Nat} {no : Int} (h : Hp w0 w (ABlk fb (fault at_ no) :: Ps)) (hn : no ≠ 0) : Hp w0 w (AErr (.iface 78 (.pointer (some ⟨fb, 0, none⟩))) ⟨at_, no⟩ :: Ps) := by
  obtain ⟨S1, k1, k2⟩ := h.use1
  exact k2 w (AErr (.iface 78 (.pointer (some ⟨fb, 0, none⟩))) ⟨at_, no⟩) (Keep.refl _ _) (.inr ⟨hn, fb, rfl, .inl k1.1, k1.2⟩)
theorem setCell_size (w : World) (a : Addr) (v : Value) : (w.setCell a v).heap.size = w.heap.size := by simp
/-- The reader is spoiled. -/
theorem Hp.rdSpoil (h : Hp w0 w (ARd rb bs s :: Ps)) (from_ : Nat) (hf : from_ ≤ bs.length) (code : Int) (hc : code ≠ 0) :
    Calls Try.prog 36 #[.pointer (some ⟨rb, 0, none⟩), .int .i64 from_, .iface 51 (.int .i64 code)] w fun e w' => e = .returned (.tuple #[]) ∧ Hp w0 w' (ARd rb bs ⟨from_, code⟩ :: Ps) := by
  obtain ⟨v, A, c, hI, hP⟩ := h.rdOpen
  obtain ⟨x0, x1, x2, xf⟩ := blk3c (by exact hP.blk0)
  have HP := Lib.hid hP
  clear hP
  have HP1 := Lib.hid (HP.out.setBlk 0 (.int .i64 from_))
  have hP2 := HP1.out.alloc (.cells #[.int .i64 from_, .iface 51 (.int .i64 code)] 80)
  rw [setCell_size] at hP2
  have HP2 := Lib.hid hP2
  clear hP2
  obtain ⟨z0, z1, z2, zf⟩ := blk3c (by exact HP2.out.blk1)
  obtain ⟨y0, y1, y2, yf⟩ := blk3c (by exact HP1.out.blk0)
  go_enter Try.func36, Try.ntmps36
  go_wp2_with fail
  go_end0
  exact ⟨rfl, Hp.rdShut (s := ⟨from_, code⟩) (A := A) (c := c) ⟨hf, hI.2⟩ (((HP2.out.swap.setBlk 1 (.iface 78 (.pointer (some ⟨w.heap.size, 0, none⟩)))).swap.errOf hc).up3.tail.down2)⟩
theorem Hp.rdLeft (h : Hp w0 w (ARd rb bs s :: Ps)) : Calls Try.prog 37 #[.pointer (some ⟨rb, 0, none⟩)] w fun e w' => e = .returned (.int .i64 ((bs.length : Int) - s.at_)) ∧ ∃ m, w' = w.drewN m := by
  obtain ⟨v, A, c, hI, hP⟩ := h.rdOpen
  obtain ⟨x0, x1, x2, xf⟩ := blk3c (by exact hP.blk0)
  have HP := Lib.hid h
  obtain ⟨a, ha⟩ : ∃ a, a = s.at_ := ⟨_, rfl⟩
  obtain ⟨n, hn⟩ : ∃ n, n = bs.length := ⟨_, rfl⟩
  rw [← ha, ← hn] at hI ⊢
  rw [← ha] at x0
  rw [← hn] at x2
  have hI1 := hI.1
  have hI2 := hI.2.1
  have hw : IntKind.i64.wrap ((n : Int) - (a : Int)) = (n : Int) - (a : Int) := IntWalk.i64_in _ (by omega)
  clear hP ha hn hI h
  go_enter Try.func37, Try.ntmps37
  go_wp2_with fail
  go_quiet (fail)
  go_wp2_with fail
  go_ret
  exact ⟨rfl, _, rfl⟩
theorem Hp.rdAt (h : Hp w0 w (ARd rb bs s :: Ps)) : Calls Try.prog 23 #[.pointer (some ⟨rb, 0, none⟩)] w fun e w' => e = .returned (.int .i64 s.at_) ∧ Hp w0 w' (ARd rb bs s :: Ps) := by
  obtain ⟨v, A, c, hI, hP⟩ := h.rdOpen
  obtain ⟨x0, x1, x2, xf⟩ := blk3c (by exact hP.blk0)
  have HP := Lib.hid h
  clear hP h hI
  go_enter Try.func23, Try.ntmps23
  go_wp2_with fail
  go_ret
  exact ⟨rfl, HP.out⟩
/-- What is amiss at the end: none; or a fault that tells it. -/
def FaultV (w : World) (v : Value) (no : Int) : Prop := (no = 0 ∧ v = .nilIface) ∨ (no ≠ 0 ∧ ∃ fb at_, v = .iface 78 (.pointer (some ⟨fb, 0, none⟩)) ∧ w.heap[fb]? = some (fault at_ no))
theorem rsDone_go {bs : List Int} {s : Rs} (h0 : s.no = 0) (h1 : s.at_ < bs.length) : rsDone bs s = 2 := by unfold rsDone; rw [if_pos ⟨h0, h1⟩]
theorem rsDone_stay {bs : List Int} {s : Rs} (h : s.no ≠ 0 ∨ bs.length ≤ s.at_) : rsDone bs s = s.no := by unfold rsDone; rw [if_neg (by omega)]
theorem Hp.rdDone (h : Hp w0 w (ARd rb bs s :: Ps)) : Calls Try.prog 22 #[.pointer (some ⟨rb, 0, none⟩)] w fun e w' => ∃ v, e = .returned v ∧ FaultV w' v (rsDone bs s) ∧ Hp w0 w' (ARd rb bs s :: Ps) := by
  obtain ⟨v, A, c, hI, hP⟩ := h.rdOpen
  obtain ⟨x0, x1, x2, xf⟩ := blk3c (by exact hP.blk0)
  have HP := Lib.hid h
  have HPO := Lib.hid hP
  have herr := hP.up2.errCases
  have hI1 := hI.1
  have hI2 := hI.2.1
  have HD1 := Lib.hid (rsDone_go (bs := bs) (s := s))
  have HD2 := Lib.hid (rsDone_stay (bs := bs) (s := s))
  clear hP h hI
  rcases herr with ⟨h0, rfl⟩ | ⟨h0, fb, rfl, hfb⟩
  · have HL := Lib.hid HP.out.rdLeft
    have H0 := Lib.hid h0
    clear h0
    have hfact : ∀ m, (w.drewN m).cell? ⟨rb, 0, none⟩ = some (.int .i64 s.at_) ∧ (w.drewN m).cell? ⟨rb, 1, none⟩ = some .nilIface := fun m => by
      obtain ⟨y0, y1, _, _⟩ := blk3c (by exact (HPO.out.below (pw_below_drewN (Below.refl _ _) m)).blk0)
      exact ⟨y0, y1⟩
    have HFT := Lib.hid hfact
    clear hfact
    by_cases hlt : s.at_ < bs.length
    · have hgt : (bs.length : Int) - s.at_ > 0 := by omega
      have HR := Lib.hid (HD1.out H0.out hlt)
      go_enter Try.func22, Try.ntmps22
      go_wp2_with (go_at_call 37; refine Calls.mono HL.out ?_; rintro e w1 ⟨rfl, m, rfl⟩; obtain ⟨y0, y1⟩ := HFT.out m)
      go_ret
      refine ⟨_, rfl, ?_, (HP.out.below (pw_below_drewN (Below.refl _ _) m)).below (below_alloc (Below.refl _ _) _)⟩
      rw [HR.out]
      exact .inr ⟨by decide, (w.drewN m).heap.size, s.at_, rfl, heap_alloc_new (w.drewN m) _⟩
    · have hgt : ¬ (bs.length : Int) - s.at_ > 0 := by omega
      have HR := Lib.hid (HD2.out (.inr (by omega)))
      go_enter Try.func22, Try.ntmps22
      go_wp2_with (go_at_call 37; refine Calls.mono HL.out ?_; rintro e w1 ⟨rfl, m, rfl⟩; obtain ⟨y0, y1⟩ := HFT.out m)
      go_ret
      refine ⟨_, rfl, ?_, HP.out.below (pw_below_drewN (Below.refl _ _) m)⟩
      rw [HR.out]
      exact .inl ⟨H0.out, rfl⟩
  · have HR := Lib.hid (HD2.out (.inl h0))
    have HF := Lib.hid hfb
    clear hfb
    go_enter Try.func22, Try.ntmps22
    go_wp2_with fail
    go_ret
    refine ⟨_, rfl, ?_, HP.out⟩
    rw [HR.out]
    exact .inr ⟨h0, fb, s.at_, rfl, HF.out⟩
set_option maxRecDepth 100000 in
/-- A reader of bytes that came in. -/
theorem Hp.rdOf {A : Option Addr} {n cap : Nat} (h : Hp w0 w Ps) (hC : (Kd.int .u8).C w A n bs) (hc : n ≤ cap) (hn : n ≤ 1000000) (hb : ByOk bs) :
    Calls Try.prog 19 #[.slice A n cap] w fun e w' => ∃ rb, e = .returned (.pointer (some ⟨rb, 0, none⟩)) ∧ Hp w0 w' (ARd rb bs ⟨0, 0⟩ :: Ps) := by
  obtain rfl := Kd.C_len hC
  have HC := Lib.hid hC
  have HP := Lib.hid h
  clear hC h
  go_enter Try.func19, Try.ntmps19
  go_wp2_with fail
  refine Calls.mono (clone_byte A cap bs w HC.out hc (by omega)) ?_
  rintro e w1 ⟨A1, c1, rfl, hR1, hB1⟩
  have HP1 := Lib.hid (HP.out.row hB1 hR1)
  have HP2 := Lib.hid (HP1.out.alloc (.cells #[.int .i64 0, .nilIface, .slice A1 bs.length c1] 86))
  clear hR1 hB1
  go_wp2_with fail
  go_ret
  exact ⟨w1.heap.size, rfl, Hp.rdShut (s := ⟨0, 0⟩) (v := .nilIface) (A := A1) (c := c1) ⟨Nat.zero_le _, by omega, hb⟩ ((HP2.out.errNone ⟨0, 0⟩ rfl).down2)⟩
end
end Go.Proofs.Ytidjapjidihbpaa
set_option linter.unusedVariables false
set_option linter.unusedSimpArgs false
namespace Go.Proofs.Ytidjapjidihbpaa
open Go.RowKit Go.Proofs.YtidjapjidihbpaaW.PrintWords
theorem runLen_more : ∀ {l : List Int} {k : Nat} {c : Int}, k ≤ runLen l → l[k]? = some c → (128 ≤ c → k + 1 ≤ runLen l) ∧ (¬ 128 ≤ c → runLen l = k)
  | [], _, _, _, hc => by simp at hc
  | d :: l, 0, c, _, hc => by
    obtain rfl : d = c := by simpa using hc
    unfold runLen
    constructor
    · intro h; rw [if_pos h]; omega
    · intro h; rw [if_neg h]
  | d :: l, k + 1, c, h, hc => by
    rw [List.getElem?_cons_succ] at hc
    unfold runLen at h ⊢
    by_cases hd : 128 ≤ d
    · rw [if_pos hd] at h ⊢
      obtain ⟨h1, h2⟩ := runLen_more (l := l) (k := k) (by omega) hc
      exact ⟨fun h => by have := h1 h; omega, fun h => by rw [h2 h]⟩
    · rw [if_neg hd] at h
      omega
theorem decVal_more : ∀ {l : List Int} {k : Nat} {c : Int}, l[k]? = some c → decVal (l.take (k + 1)) = decVal (l.take k) + c.toNat % 128 * 128 ^ k
  | [], _, _, hc => by simp at hc
  | d :: l, 0, c, hc => by
    obtain rfl : d = c := by simpa using hc
    show d.toNat % 128 + 128 * 0 = 0 + d.toNat % 128 * 1
    omega
  | d :: l, k + 1, c, hc => by
    rw [List.getElem?_cons_succ] at hc
    show d.toNat % 128 + 128 * decVal (l.take (k + 1)) = d.toNat % 128 + 128 * decVal (l.take k) + c.toNat % 128 * 128 ^ (k + 1)
    rw [decVal_more hc, Nat.mul_add, Nat.pow_succ, Nat.add_assoc]
    congr 2
    rw [Nat.mul_comm (128 ^ k) 128, ← Nat.mul_assoc, ← Nat.mul_assoc, Nat.mul_comm 128]
theorem decNum_9 {l : List Int} (h : 9 ≤ runLen l) : decNum l = .error 2 := by unfold decNum; rw [if_pos h]
theorem decNum_end {l : List Int} {k : Nat} (h : k ≤ runLen l) (hk : k < 9) (hl : l.length ≤ k) : decNum l = .error 3 := by
  have := runLen_le l
  unfold decNum
  rw [if_neg (by omega), if_pos (by omega)]
theorem decNum_zero {l : List Int} {k : Nat} (h : runLen l = k) (hk : k < 9) (hc : l[k]? = some 0) (h0 : 0 < k) : decNum l = .error 2 := by
  subst h
  have := (List.getElem?_eq_some_iff.1 hc).1
  unfold decNum
  rw [if_neg (by omega), if_neg (by omega), if_pos ⟨hc, h0⟩]
theorem decNum_ok {l : List Int} {k : Nat} {c : Int} (h : runLen l = k) (hk : k < 9) (hc : l[k]? = some c) (h0 : c ≠ 0 ∨ k = 0) : decNum l = .ok ((decVal (l.take (k + 1)) : Nat), k + 1) := by
  subst h
  have := (List.getElem?_eq_some_iff.1 hc).1
  unfold decNum
  rw [if_neg (by omega), if_neg (by omega), if_neg]
  rintro ⟨h1, h2⟩
  rw [hc] at h1
  injection h1 with h1
  omega
/-- A number more; where it is amiss the reader is put to a place. -/
def rsNumAt (bs : List Int) (from_ : Nat) (s : Rs) : Rs × Int :=
  if s.no = 0 then
    match decNum (bs.drop s.at_) with
    | .ok (n, k) => (⟨s.at_ + k, 0⟩, n)
    | .error c => (⟨from_, c⟩, 0)
  else (s, 0)
theorem rsNumAt_self (bs : List Int) (s : Rs) : rsNumAt bs s.at_ s = rsNum bs s := rfl
theorem rsNumAt_err {bs : List Int} {f : Nat} {s : Rs} {c : Int} (h0 : s.no = 0) (h : decNum (bs.drop s.at_) = .error c) : rsNumAt bs f s = (⟨f, c⟩, 0) := by unfold rsNumAt; rw [if_pos h0, h]
theorem rsNumAt_ok {bs : List Int} {f : Nat} {s : Rs} {n : Int} {k : Nat} (h0 : s.no = 0) (h : decNum (bs.drop s.at_) = .ok (n, k)) : rsNumAt bs f s = (⟨s.at_ + k, 0⟩, n) := by unfold rsNumAt; rw [if_pos h0, h]
theorem rsNumAt_stuck {bs : List Int} {f : Nat} {s : Rs} (h : s.no ≠ 0) : rsNumAt bs f s = (s, 0) := by unfold rsNumAt; rw [if_neg h]
theorem i64_and_nat (a b : Nat) (ha : a < 9223372036854775808) (hb : b < 9223372036854775808) : bits .and .i64 (a : Int) (b : Int) = ((a &&& b : Nat) : Int) := by
  have hx : a &&& b < 2 ^ 63 := Nat.and_lt_two_pow _ (by omega)
  show IntKind.i64.wrap ((BitVec.ofInt 64 (a : Int) &&& BitVec.ofInt 64 (b : Int)).toNat : Int) = _
  rw [BitVec.toNat_and, ofInt_u64 a (by omega), ofInt_u64 b (by omega)]
  exact IntWalk.i64_in _ (by omega)
theorem i64_or_nat (a b : Nat) (ha : a < 9223372036854775808) (hb : b < 9223372036854775808) : bits .or .i64 (a : Int) (b : Int) = ((a ||| b : Nat) : Int) := by
  have hx : a ||| b < 2 ^ 63 := Nat.or_lt_two_pow (by omega) (by omega)
  show IntKind.i64.wrap ((BitVec.ofInt 64 (a : Int) ||| BitVec.ofInt 64 (b : Int)).toNat : Int) = _
  rw [BitVec.toNat_or, ofInt_u64 a (by omega), ofInt_u64 b (by omega)]
  exact IntWalk.i64_in _ (by omega)
theorem and127 {c : Int} (h : 0 ≤ c ∧ c < 256) : bits .and .i64 c 127 = ((c.toNat % 128 : Nat) : Int) := by
  have h1 := i64_and_nat c.toNat 127 (by omega) (by decide)
  rw [nat_mask7] at h1
  rw [← h1]
  congr 1
  omega
theorem pow128 (k : Nat) : (128 : Nat) ^ k = 2 ^ (7 * k) := by rw [Nat.pow_mul]
theorem shl7 (m k : Nat) (hm : m < 128) (hk : k < 9) : IntKind.i64.wrap ((m : Int) * 2 ^ (7 * (k : Int)).toNat) = ((m * 128 ^ k : Nat) : Int) := by
  have e : (7 * (k : Int)).toNat = 7 * k := by omega
  have hp : 128 ^ k ≤ 128 ^ 8 := Nat.pow_le_pow_right (by omega) (by omega)
  have h8 : (128 : Nat) ^ 8 = 72057594037927936 := by decide
  have hb : m * 128 ^ k ≤ 127 * 72057594037927936 := Nat.mul_le_mul (by omega) (by omega)
  have e2 : (m : Int) * 2 ^ (7 * k) = ((m * 128 ^ k : Nat) : Int) := by rw [pow128]; push_cast; rfl
  rw [e, e2]
  exact IntWalk.i64_in _ (by omega)
theorem or_join (v m k : Nat) (hv : v < 128 ^ k) (hm : m < 128) (hk : k < 9) : bits .or .i64 (v : Int) ((m * 128 ^ k : Nat) : Int) = ((v + m * 128 ^ k : Nat) : Int) := by
  have hp : 128 ^ k ≤ 128 ^ 8 := Nat.pow_le_pow_right (by omega) (by omega)
  have h8 : (128 : Nat) ^ 8 = 72057594037927936 := by decide
  have hb : m * 128 ^ k ≤ 127 * 72057594037927936 := Nat.mul_le_mul (by omega) (by omega)
  rw [i64_or_nat v _ (by omega) (by omega), Nat.or_comm, nat_join (7 * k) (m * 128 ^ k) v (by rw [pow128]; exact Nat.mul_mod_left _ _) (by rw [← pow128]; exact hv), Nat.add_comm]
section
variable {w0 w : World} {rb : Nat} {bs : List Int} {s : Rs} {Ps : List Asn}
/-- The reader goes on to another byte. -/
theorem Hp.rdMove {A : Option Addr} {c : Nat} (h : Hp w0 w (ABlk rb (.cells (rdCells .nilIface A bs.length c s) 86 (0, 0)) :: ABy (.slice A bs.length c) bs :: AErr .nilIface s :: Ps)) (i : Int) (a : Nat) (hi : i = a) (ha : a ≤ bs.length) (hI : bs.length ≤ 1000000 ∧ ByOk bs) :
    Hp w0 (w.setCell ⟨rb, 0, none⟩ (.int .i64 i)) (ARd rb bs ⟨a, 0⟩ :: Ps) := by
  subst hi
  refine Hp.rdShut (s := ⟨a, 0⟩) (v := .nilIface) (A := A) (c := c) ⟨ha, hI⟩ ?_
  exact (((h.setBlk 0 (.int .i64 (a : Int))).up2.tail.errNone ⟨a, 0⟩ rfl).down2)
set_option maxHeartbeats 1600000 in
set_option maxRecDepth 100000 in
theorem Hp.rdNumber (h : Hp w0 w (ARd rb bs s :: Ps)) (f : Nat) (hf : f ≤ bs.length) :
    Calls Try.prog 35 #[.pointer (some ⟨rb, 0, none⟩), .int .i64 f] w fun e w' => e = .returned (.int .i64 (rsNumAt bs f s).2) ∧ Hp w0 w' (ARd rb bs (rsNumAt bs f s).1 :: Ps) := by
  have HP := Lib.hid h
  obtain ⟨v, A, c, hI, hP⟩ := h.rdOpen
  have herr := hP.up2.errCases
  obtain ⟨x0, x1, x2, xf⟩ := blk3c (by exact hP.blk0)
  have HBY := Lib.hid hI.2.2
  have hI1 := hI.1
  have hI2 := hI.2.1
  clear h hP hI
  rcases herr with ⟨h0, rfl⟩ | ⟨h0, fb, rfl, hfb⟩
  case inr =>
    have HST := Lib.hid (rsNumAt_stuck (bs := bs) (f := f) h0)
    rw [HST.out]
    clear hfb h0 HBY
    go_enter Try.func35, Try.ntmps35
    go_wp2_with fail
    go_loopw [5, 6] (fun nv kv wr => wr = w) (fun _ _ _ => 0)
    case atStart => exact rfl
    case round =>
      subst hrel
      go_wp2_with fail
      go_ret
      exact ⟨rfl, HP.out⟩
  case inl =>
  obtain ⟨at0, ha0⟩ : ∃ a, a = s.at_ := ⟨_, rfl⟩
  have HERR := Lib.hid (fun c => rsNumAt_err (bs := bs) (f := f) (c := c) h0)
  have HOK := Lib.hid (fun n k => rsNumAt_ok (bs := bs) (f := f) (n := n) (k := k) h0)
  have hs : s = ⟨at0, 0⟩ := by rw [ha0, ← h0]
  rw [hs] at HP
  rw [← ha0] at HERR HOK hI1
  obtain ⟨R, hR⟩ : ∃ R, R = rsNumAt bs f s := ⟨_, rfl⟩
  rw [← hR] at HERR HOK ⊢
  clear x0 x1 x2 xf hR ha0 hs h0
  have HDL := Lib.hid (show (bs.drop at0).length = bs.length - at0 from List.length_drop)
  have HDG := Lib.hid (show ∀ k : Nat, (bs.drop at0)[k]? = bs[at0 + k]? from fun k => List.getElem?_drop)
  have HRL := Lib.hid (runLen_le (bs.drop at0))
  have HVL := Lib.hid (decVal_lt)
  generalize bs.drop at0 = l at *
  obtain ⟨n, hn⟩ : ∃ n, n = bs.length := ⟨_, rfl⟩
  have HN := Lib.hid hn
  rw [← hn] at hI1 hI2 hf HDL
  clear hn
  have hRL : runLen l ≤ n - at0 := by have := HRL.out; have := HDL.out; omega
  go_enter Try.func35, Try.ntmps35
  go_wp2_with fail
  go_loopw [5, 6] (fun nv kv wr => ∃ k V : Nat, nv = .int .i64 (V : Int) ∧ kv = .int .i64 (k : Int) ∧ k ≤ 9 ∧ Hid (k ≤ runLen l ∧ V = decVal (l.take k)) ∧ Hp w0 wr (ARd rb bs ⟨at0 + k, 0⟩ :: Ps)) (fun _ kv _ => 10 - (intOf kv).toNat)
  case atStart => exact ⟨0, 0, rfl, rfl, by omega, Lib.hid ⟨Nat.zero_le _, rfl⟩, HP.out⟩
  case round =>
    obtain ⟨k, V, rfl, rfl, hk, hKR, hQ⟩ := hrel
    have HQ := Lib.hid hQ
    obtain ⟨v1, A1, c1, hI, hP⟩ := hQ.rdOpen
    have herr := hP.up2.errCases
    rcases herr with ⟨_, rfl⟩ | ⟨h9, _⟩
    case inr => exact absurd rfl h9
    have HPO := Lib.hid hP
    have hx := blk3c (by exact hP.blk0)
    rw [← HN.out] at hx
    obtain ⟨x0, x1, x2, xf⟩ := hx
    dsimp only at x0
    clear hQ hP hI
    by_cases hk9 : k = 9
    case pos =>
      subst hk9
      have hE := HERR.out _ (decNum_9 hKR.out.1)
      have HE := Lib.hid hE
      clear hE
      go_wp2_with fail
      refine Calls.mono (HQ.out.rdSpoil f (by rw [← HN.out]; exact hf) 2 (by decide)) ?_
      rintro e w1 ⟨rfl, hP⟩
      have HP1 := Lib.hid hP
      clear hP x0 x1 x2 xf
      go_wp2_with fail
      go_ret
      rw [HE.out]
      exact ⟨rfl, HP1.out⟩
    case neg =>
    have hk8 : k < 9 := by omega
    by_cases hend : at0 + k < n
    case neg =>
      have hE := HERR.out _ (decNum_end hKR.out.1 hk8 (by rw [HDL.out]; omega))
      have HE := Lib.hid hE
      clear hE
      go_wp2_with fail
      go_quiet (fail)
      go_wp2_with fail
      refine Calls.mono ((HQ.out.below (pw_below_drewN (Below.refl _ _) _)).rdSpoil f (by rw [← HN.out]; exact hf) 3 (by decide)) ?_
      rintro e w1 ⟨rfl, hP⟩
      have HP1 := Lib.hid hP
      clear hP x0 x1 x2 xf
      go_wp2_with fail
      go_ret
      rw [HE.out]
      exact ⟨rfl, HP1.out⟩
    case pos =>
    have hend0 : (at0 : Int) + (k : Int) < (n : Int) := by omega
    have hend1 : (0 : Int) ≤ (at0 : Int) + (k : Int) := by omega
    have hrd := Kd.R_reads' HPO.out.swap.head
    obtain ⟨ad, x, rfl, hx, d0⟩ := C_nth_scalar hrd.2.2 (at0 + k) (by rw [← HN.out]; exact hend)
    have hxl : l[k]? = some x := by rw [HDG.out]; exact hx
    have hxb := HBY.out x (List.mem_of_getElem? hx)
    have hmore := runLen_more hKR.out.1 hxl
    have hV := hKR.out.2
    have hVl : V < 128 ^ k := by
      rw [hV]
      have h1 := HVL.out (l.take k)
      have h2 : (l.take k).length ≤ k := by rw [List.length_take]; omega
      exact Nat.lt_of_lt_of_le h1 (Nat.pow_le_pow_right (by omega) h2)
    have hVn : decVal (l.take (k + 1)) = V + x.toNat % 128 * 128 ^ k := by rw [hV]; exact decVal_more hxl
    have hand := and127 hxb
    have hxm : x.toNat % 128 < 128 := by omega
    have hsh := shl7 (x.toNat % 128) k hxm hk8
    have hor := or_join V (x.toNat % 128) k hVl hxm hk8
    have HZ := Lib.hid (fun hr : runLen l = k => decNum_zero (l := l) hr hk8)
    have HO := Lib.hid (fun hr : runLen l = k => decNum_ok (l := l) (c := x) hr hk8 hxl)
    have hpx : 128 ^ k ≤ 128 ^ 8 := Nat.pow_le_pow_right (by omega) (by omega)
    obtain ⟨V2, hV2⟩ : ∃ V2, V2 = V + x.toNat % 128 * 128 ^ k := ⟨_, rfl⟩
    rw [← hV2] at hVn hor
    generalize (x.toNat % 128 * 128 ^ k : Nat) = M at *
    generalize (x.toNat % 128 : Nat) = mx at *
    have HVN := Lib.hid hVn
    have HXL := Lib.hid hxl
    have HMO := Lib.hid hmore
    have HM := Lib.hid (fun m => (HPO.out.below (pw_below_drewN (Below.refl _ _) m)).rdMove ((at0 : Int) + (k : Int) + 1) (at0 + k + 1) (by omega) (by rw [← HN.out]; omega) ⟨by rw [← HN.out]; exact hI2, HBY.out⟩)
    clear hrd hx hxl hmore hV hVl hVn hV2 hpx
    go_wp2_with fail
    go_quiet (fail)
    go_wp2_with fail
    go_quiet (fail)
    by_cases hc : 128 ≤ x
    case pos =>
      go_wp2_with fail
      refine ⟨⟨k + 1, V2, rfl, by simp, by omega, Lib.hid ⟨HMO.out.1 hc, HVN.out.symm⟩, HM.out _⟩, ?_⟩
      simp [intOf]
      omega
    case neg =>
    have hrl := HMO.out.2 (by omega)
    by_cases hz : x = 0
    case pos =>
      have hxz : (x == 0) = true := by simpa using hz
      have HZ0 := Lib.hid hz
      clear hz
      by_cases hk0 : 0 < k
      case pos =>
        have hk1 : (0 : Int) < (k : Int) := by omega
        have hE := HERR.out _ (HZ.out hrl (by rw [HXL.out, HZ0.out]) hk0)
        have HE := Lib.hid hE
        clear hE hk0
        go_wp2_with fail
        refine Calls.mono ((HM.out _).rdSpoil f (by rw [← HN.out]; exact hf) 2 (by decide)) ?_
        rintro e w1 ⟨rfl, hP⟩
        have HP1 := Lib.hid hP
        clear hP x0 x1 x2 xf
        go_wp2_with fail
        go_ret
        rw [HE.out]
        exact ⟨rfl, HP1.out⟩
      case neg =>
        have hk1 : ¬ (0 : Int) < (k : Int) := by omega
        have hE := HOK.out _ _ (HO.out hrl (.inr (by omega)))
        rw [HVN.out] at hE
        have HE := Lib.hid hE
        clear hE hk0
        go_wp2_with fail
        go_ret
        rw [HE.out]
        exact ⟨rfl, HM.out _⟩
    case neg =>
      have hxz : (x == 0) = false := by simpa using hz
      have hE := HOK.out _ _ (HO.out hrl (.inl hz))
      rw [HVN.out] at hE
      have HE := Lib.hid hE
      clear hE hz
      go_wp2_with fail
      go_ret
      rw [HE.out]
      exact ⟨rfl, HM.out _⟩
theorem Hp.rdNum (h : Hp w0 w (ARd rb bs s :: Ps)) :
    Calls Try.prog 20 #[.pointer (some ⟨rb, 0, none⟩)] w fun e w' => e = .returned (.int .i64 (rsNum bs s).2) ∧ Hp w0 w' (ARd rb bs (rsNum bs s).1 :: Ps) := by
  have HP := Lib.hid h
  obtain ⟨v, A, c, hI, hP⟩ := h.rdOpen
  obtain ⟨x0, x1, x2, xf⟩ := blk3c (by exact hP.blk0)
  have hI1 := hI.1
  have HS := Lib.hid (rsNumAt_self bs s)
  clear h hP hI
  go_enter Try.func20, Try.ntmps20
  go_wp2_with fail
  refine Calls.mono (HP.out.rdNumber s.at_ hI1) ?_
  rw [HS.out]
  rintro e w1 ⟨rfl, hP⟩
  have HP1 := Lib.hid hP
  clear hP
  go_wp2_with fail
  go_ret
  exact ⟨rfl, HP1.out⟩
end
end Go.Proofs.Ytidjapjidihbpaa
set_option linter.unusedVariables false
set_option linter.unusedSimpArgs false
namespace Go.Proofs.Ytidjapjidihbpaa
open Go.RowKit Go.Proofs.YtidjapjidihbpaaW.PrintWords
theorem conv_text (W : World) (ad : Addr) (n cap : Nat) (xs : List Int) (hb : ByOk xs) (hC : (Kd.int .u8).C W (some ad) n xs) :
    (convert 30 9 (.slice (some ad) n cap)).run Try.prog W = .ok (.string (textOf xs)) W := by
  have hn := Kd.C_len hC
  subst hn
  have h := run_convert_bytes_back (P := Try.prog) W 30 9 5 ad cap (xs.map (fun x => UInt8.ofNat x.toNat)) Try.underlying30 Try.underlying5 Try.underlying9 (fun j hj => by
    rw [List.length_map] at hj
    obtain ⟨ad', x, e, hx, h0⟩ := C_nth_scalar hC j hj
    obtain rfl : ad = ad' := Option.some.inj e
    rw [h0]
    obtain ⟨hj2, rfl⟩ := List.getElem?_eq_some_iff.1 hx
    have hb2 := hb _ (List.getElem_mem hj2)
    rw [List.getElem_map, UInt8.toNat_ofNat']
    congr 2
    omega)
  rw [List.length_map] at h
  exact h
theorem run_mid {P : Program} (t e : TypeId) {i : TypeInfo} (ht : P.underlying t = some (.slice e)) (hi : P.info? e = some i) (size : Nat) (hsz : i.size = size) (A : Option Addr) (n c lo hi2 : Nat) (h1 : lo ≤ hi2) (h2 : hi2 ≤ n) (hc : n ≤ c) (W : World) :
    (Instr.slice t (.slice A n c) (some (.int .i64 (lo : Int))) (some (.int .i64 (hi2 : Int))) none).run P W = .ok (.slice (if c = lo then A else A.map (·.add (lo * size))) (hi2 - lo) (c - lo)) W := by
  have hel : P.elem t = e := by simp [Program.elem, ht]
  have hu : P.underlying t = some (.slice (P.elem t)) := by rw [hel]; exact ht
  rw [run_slice_lh W t A n c hu .i64 .i64 (lo : Int) (hi2 : Int) (by omega) (by omega) (by omega), hel]
  simp [sizeOf, typeInfo, hi, hsz, sliced, Result.andThen]
/-- A piece of a row: the value of the cut, and that it reads so. -/
theorem mid_row {α : Type} {d : Kd α} {P : Program} (t e : TypeId) {i : TypeInfo} (ht : P.underlying t = some (.slice e)) (hi : P.info? e = some i) (hsz : i.size = d.sz) {A : Option Addr} {n c : Nat} (lo m : Nat) {xs : List α} (hm : lo + m ≤ n) (hc : n ≤ c) {w : World} (hC : d.C w A n xs) (h0 : 0 < n) :
    ∃ ad, (∀ W : World, (Instr.slice t (.slice A n c) (some (.int .i64 (lo : Int))) (some (.int .i64 ((lo + m : Nat) : Int))) none).run P W = .ok (.slice (some ad) m (c - lo)) W) ∧ d.C w (some ad) m ((xs.drop lo).take m) := by
  have hn := Kd.C_len hC
  subst hn
  obtain ⟨ad, hA⟩ : ∃ ad, A = some ad := by
    obtain ⟨ad, _, _, hA, _⟩ := C_nth hC 0 h0
    exact ⟨ad, hA⟩
  subst hA
  have h1 := fun W => run_mid t e ht hi d.sz hsz (some ad) xs.length c lo (lo + m) (Nat.le_add_right _ _) hm hc W
  have h2 := Kd.C_mid hC (Nat.le_add_right lo m) hm hc
  rw [List.drop_take, Nat.add_sub_cancel_left] at h2
  have hl : ((xs.drop lo).take m).length = m := by rw [List.length_take, List.length_drop]; omega
  rw [hl] at h2
  simp only [Nat.add_sub_cancel_left] at h1
  by_cases he : c = lo
  · rw [if_pos he] at h2
    simp only [if_pos he] at h1
    exact ⟨_, h1, h2⟩
  · rw [if_neg he] at h2
    simp only [if_neg he] at h1
    exact ⟨_, h1, h2⟩
set_option maxRecDepth 100000 in
theorem info_at5 : ∃ i, Try.prog.info? 5 = some i ∧ i.size = 1 := by
  obtain ⟨i, h1, h2⟩ := Option.map_eq_some_iff.1 info_byte
  exact ⟨i, h1, by injection h2 with _ h2; injection h2 with h2 _⟩
section
variable {w0 w : World} {rb : Nat} {bs : List Int} {s : Rs} {Ps : List Asn}
theorem rsText_stay {bs : List Int} {most : Int} {s : Rs} (h : (rsNum bs s).1.no ≠ 0) : rsText bs most s = ((rsNum bs s).1, ⟨#[]⟩) := by
  unfold rsText
  unfold rsNum at h ⊢
  split
  · rename_i h0
    rw [if_pos h0] at h
    cases hd : decNum (bs.drop s.at_) with
    | ok p => rw [hd] at h; exact absurd rfl h
    | error c => rfl
  · rfl
theorem rsText_go {bs : List Int} {most : Int} {s : Rs} (hb : ByOk bs) (h : (rsNum bs s).1.no = 0) :
    0 < (rsNum bs s).1.at_ ∧ (most < (rsNum bs s).2 → rsText bs most s = (⟨s.at_, 2⟩, ⟨#[]⟩)) ∧
    (¬ most < (rsNum bs s).2 → (bs.length : Int) - (rsNum bs s).1.at_ < (rsNum bs s).2 → rsText bs most s = (⟨s.at_, 3⟩, ⟨#[]⟩)) ∧
    (¬ most < (rsNum bs s).2 → ¬ (bs.length : Int) - (rsNum bs s).1.at_ < (rsNum bs s).2 → rsText bs most s = (⟨(rsNum bs s).1.at_ + (rsNum bs s).2.toNat, 0⟩, textOf ((bs.drop (rsNum bs s).1.at_).take (rsNum bs s).2.toNat))) := by
  unfold rsText
  unfold rsNum at h ⊢
  by_cases h0 : s.no = 0
  · rw [if_pos h0] at h ⊢
    simp only [if_pos h0]
    cases hd : decNum (bs.drop s.at_) with
    | ok p =>
      obtain ⟨n, k⟩ := p
      have hk := (decNum_some (hb.drop _) hd).2.2.2.1
      refine ⟨Nat.lt_of_lt_of_le hk (Nat.le_add_left _ _), fun h1 => ?_, fun h1 h2 => ?_, fun h1 h2 => ?_⟩
      · dsimp only at h1 ⊢
        rw [if_pos h1]
      · dsimp only at h1 h2 ⊢
        rw [if_neg h1, if_pos h2]
      · dsimp only at h1 h2 ⊢
        rw [if_neg h1, if_neg h2]
    | error c =>
      rw [hd] at h
      exact absurd h (show ¬ c = 0 from decNum_ne hd)
  · rw [if_neg h0] at h
    exact absurd h h0
set_option maxHeartbeats 1600000 in
set_option maxRecDepth 100000 in
theorem Hp.rdText (h : Hp w0 w (ARd rb bs s :: Ps)) (most : Int) :
    Calls Try.prog 21 #[.pointer (some ⟨rb, 0, none⟩), .int .i64 most] w fun e w' => e = .returned (.string (rsText bs most s).2) ∧ Hp w0 w' (ARd rb bs (rsText bs most s).1 :: Ps) := by
  have HP := Lib.hid h
  obtain ⟨v, A, c, hI, hP⟩ := h.rdOpen
  obtain ⟨x0, x1, x2, xf⟩ := blk3c (by exact hP.blk0)
  have hI1 := hI.1
  have hI2 := hI.2.1
  have HBY := Lib.hid hI.2.2
  have hft : Fit bs s (bs.take s.at_) := fun _ => ⟨rfl, hI1⟩
  have hnb := (Fit.num hI.2.2 hft).2
  have HNB := Lib.hid hnb
  have HS := Lib.hid (rsNumAt_self bs s)
  have HSTAY := Lib.hid (rsText_stay (bs := bs) (most := most) (s := s))
  have HGO := Lib.hid (rsText_go (most := most) (s := s) hI.2.2)
  clear h hP hI hft hnb
  obtain ⟨R, hR⟩ : ∃ R, R = rsText bs most s := ⟨_, rfl⟩
  rw [← hR] at HSTAY HGO ⊢
  clear hR
  go_enter Try.func21, Try.ntmps21
  go_wp2_with fail
  refine Calls.mono (HP.out.rdNumber s.at_ hI1) ?_
  rw [HS.out]
  obtain ⟨⟨⟨a1, no1⟩, m⟩, hr⟩ : ∃ r, r = rsNum bs s := ⟨_, rfl⟩
  rw [← hr] at HSTAY HGO HNB ⊢
  clear hr x0 x1 x2 xf HP HS
  rintro e w1 ⟨rfl, hP⟩
  have HP1 := Lib.hid hP
  obtain ⟨v, A, c, hJ, hQ⟩ := hP.rdOpen
  obtain ⟨x0, x1, x2, xf⟩ := blk3c (by exact hQ.blk0)
  have HQ := Lib.hid hQ
  have herr := hQ.up2.errCases
  have hJ1 := hJ.1
  dsimp only at x0 hJ1 herr
  clear hP hQ hJ
  rcases herr with ⟨h0, rfl⟩ | ⟨h0, fb, rfl, hfb⟩
  case inr =>
    have HE := Lib.hid (HSTAY.out h0)
    clear hfb h0
    go_wp2_with fail
    go_ret
    rw [HE.out]
    exact ⟨rfl, HP1.out⟩
  case inl =>
  subst h0
  have hgo := HGO.out rfl
  dsimp only at hgo
  obtain ⟨hs0, g1, g2, g3⟩ := hgo
  have hnb := HNB.out
  dsimp only at hnb
  have G1 := Lib.hid g1
  have G2 := Lib.hid g2
  have G3 := Lib.hid g3
  clear g1 g2 g3
  by_cases hm : most < m
  case pos =>
    have HE := Lib.hid (G1.out hm)
    go_wp2_with fail
    refine Calls.mono (HP1.out.rdSpoil s.at_ hI1 2 (by decide)) ?_
    rintro e w2 ⟨rfl, hP⟩
    have HP2 := Lib.hid hP
    clear hP x0 x1 x2 xf
    go_wp2_with fail
    go_ret
    rw [HE.out]
    exact ⟨rfl, HP2.out⟩
  case neg =>
  obtain ⟨n, hn⟩ : ∃ n, n = bs.length := ⟨_, rfl⟩
  have HN := Lib.hid hn
  have HL := Lib.hid HP1.out.rdLeft
  rw [← hn] at hI1 hI2 hJ1 x2 G2 G3 HL
  clear hn
  dsimp only at HL
  by_cases hl : (n : Int) - (a1 : Int) < m
  case pos =>
    have HE := Lib.hid (G2.out (by omega) hl)
    go_wp2_with fail
    refine Calls.mono HL.out ?_
    rintro e w2 ⟨rfl, q, rfl⟩
    go_wp2_with fail
    refine Calls.mono ((HP1.out.below (pw_below_drewN (Below.refl _ _) _)).rdSpoil s.at_ (by rw [← HN.out]; exact hI1) 3 (by decide)) ?_
    rintro e w2 ⟨rfl, hP⟩
    have HP2 := Lib.hid hP
    clear hP x0 x1 x2 xf
    go_wp2_with fail
    go_ret
    rw [HE.out]
    exact ⟨rfl, HP2.out⟩
  case neg =>
  have HE := Lib.hid (G3.out (by omega) (by omega))
  obtain ⟨mn, rfl⟩ : ∃ mn : Nat, m = (mn : Int) := ⟨m.toNat, by omega⟩
  rw [Int.toNat_natCast] at HE
  have HM := Lib.hid (fun q => (HQ.out.below (pw_below_drewN (Below.refl _ _) q)).rdMove ((a1 : Int) + (mn : Int)) (a1 + mn) (by omega) (by rw [← HN.out]; omega) ⟨by rw [← HN.out]; exact hI2, HBY.out⟩)
  go_wp2_with fail
  refine Calls.mono HL.out ?_
  rintro e w2 ⟨rfl, q, rfl⟩
  have hrq := Lib.hid (HM.out q)
  obtain ⟨v3, A3, c3, hJ3, hQ3⟩ := hrq.out.rdOpen
  rw [← HN.out] at hQ3
  obtain ⟨y0, y1, y2, yf⟩ := blk3c (by exact hQ3.blk0)
  have hrd := Kd.R_reads' hQ3.swap.head
  rw [← HN.out] at hrd
  obtain ⟨inf, hin1, hin2⟩ := info_at5
  obtain ⟨ad, hsl, hCm⟩ := mid_row (n := n) 30 5 Try.underlying30 hin1 hin2 a1 mn (by omega) hrd.2.1 hrd.2.2 (by omega)
  clear hin1 hin2
  rw [Int.natCast_add] at hsl
  have hs1 : IntKind.i64.wrap ((a1 : Int) + (mn : Int) - (mn : Int)) = (a1 : Int) := by rw [show (a1 : Int) + (mn : Int) - (mn : Int) = (a1 : Int) by omega]; exact IntWalk.i64_in _ (by omega)
  have hcv := fun k => conv_text _ ad mn (c3 - a1) _ (fun x hx => HBY.out x (List.drop_subset _ _ (List.take_subset _ _ hx))) (Kd.C_below hCm (pw_below_drewN (Below.refl _ _) k))
  generalize textOf ((bs.drop a1).take mn) = tx at *
  clear hrd hCm hQ3 hJ3
  go_upto_region 12 with (fail)
  clear x0 x1 x2 xf
  generalize (w1.drewN q).setCell ⟨rb, 0, none⟩ (.int .i64 ((a1 : Int) + (mn : Int))) = W at *
  go_quiet (fail)
  go_wp2_with fail
  go_ret
  rw [HE.out]
  exact ⟨rfl, hrq.out.below (pw_below_drewN (Below.refl _ _) _)⟩
end
end Go.Proofs.Ytidjapjidihbpaa
set_option linter.unusedVariables false
set_option linter.unusedSimpArgs false
namespace Go.Proofs.Ytidjapjidihbpaa
open Go.RowKit Go.Proofs.YtidjapjidihbpaaW.PrintWords
theorem info_int8 : (Try.prog.info? 3).map (fun i => (i.zero, i.size, i.bytes)) = some (some (.int .i64 0), 1, 8) := by kernel_rfl
/-- Where a row's reader is: where the row began, if it does not go on. -/
def rsBack (f : Nat) (s : Rs) : Rs := if s.no = 0 then s else ⟨f, s.no⟩
theorem rsNumAt_back {bs : List Int} {f : Nat} {s : Rs} (h : s.no = 0) : rsNumAt bs f s = (rsBack f (rsNum bs s).1, (rsNum bs s).2) := by
  unfold rsNumAt rsNum rsBack
  rw [if_pos h, if_pos h]
  cases hd : decNum (bs.drop s.at_) with
  | ok p => rfl
  | error c => dsimp only; rw [if_neg (decNum_ne hd)]
theorem rsMany_no {bs : List Int} {j : Nat} {s : Rs} (h : (rsMany (rsNum bs) j s).1.no ≠ 0) : ∀ k, (rsMany (rsNum bs) (j + k) s).1 = (rsMany (rsNum bs) j s).1
  | 0 => rfl
  | k + 1 => by
    rw [← Nat.add_assoc, rsMany_succ, rsMany_no h k, rsNum_stuck h]
theorem rsNums_stay {bs : List Int} {most : Int} {s : Rs} (h : (rsNum bs s).1.no ≠ 0) : rsNums bs most s = ((rsNum bs s).1, []) := by
  unfold rsNums
  unfold rsNum at h ⊢
  split
  · rename_i h0
    rw [if_pos h0] at h
    cases hd : decNum (bs.drop s.at_) with
    | ok p => rw [hd] at h; exact absurd rfl h
    | error c => rfl
  · rfl
theorem rsNums_go {bs : List Int} {most : Int} {s : Rs} (h : (rsNum bs s).1.no = 0) :
    (most < (rsNum bs s).2 → rsNums bs most s = (⟨s.at_, 2⟩, [])) ∧
    (¬ most < (rsNum bs s).2 → rsNums bs most s = (rsBack s.at_ (rsMany (rsNum bs) (rsNum bs s).2.toNat (rsNum bs s).1).1, if (rsMany (rsNum bs) (rsNum bs s).2.toNat (rsNum bs s).1).1.no = 0 then (rsMany (rsNum bs) (rsNum bs s).2.toNat (rsNum bs s).1).2 else [])) := by
  unfold rsNums
  generalize rsMany (rsNum bs) = F
  unfold rsNum at h ⊢
  by_cases h0 : s.no = 0
  · rw [if_pos h0] at h ⊢
    simp only [if_pos h0]
    cases hd : decNum (bs.drop s.at_) with
    | ok p =>
      obtain ⟨n, k⟩ := p
      refine ⟨fun h1 => ?_, fun h1 => ?_⟩
      · dsimp only at h1 ⊢
        rw [if_pos h1]
      · dsimp only at h1 ⊢
        rw [if_neg h1]
        unfold rsBack
        by_cases h2 : (F n.toNat ⟨s.at_ + k, 0⟩).1.no = 0
        · rw [if_pos h2, if_pos h2, if_pos h2]
        · rw [if_neg h2, if_neg h2, if_neg h2]
    | error c =>
      rw [hd] at h
      exact absurd h (show ¬ c = 0 from decNum_ne hd)
  · rw [if_neg h0] at h
    exact absurd h h0
section
variable {w0 w : World} {rb : Nat} {bs : List Int} {s : Rs} {Ps : List Asn}
abbrev AInt (v : Value) (xs : List Int) : Asn := ARow (Kd.int .i64) 3 v xs
theorem Hp.nilRow {α : Type} (d : Kd α) (e : Nat) (h : Hp w0 w Ps) : Hp w0 w (ARow d e (.slice none 0 0) [] :: Ps) := h.fresh (Below.refl _ _) (Kd.R_nil _ _ _ _ _)
end
end Go.Proofs.Ytidjapjidihbpaa
