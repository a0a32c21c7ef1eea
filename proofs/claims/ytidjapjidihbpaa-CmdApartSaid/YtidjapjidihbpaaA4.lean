/- Put together: Rows of messages that were received: their cells; slices.IndexFunc and slices.ContainsFunc over them. · cmd.RightAnswer by its contract. · cmd.WriteAnswer by its contract. · bytes.Equal by its contract. -/
import Derived.Test.YtidjapjidihbpaaA3
import Derived.Test.YtidjapjidihbpaaA2
import Derived.Test.YtidjapjidihbpaaWLast
import Derived.Laws.BytesArg
set_option linter.unusedVariables false
set_option linter.unusedSimpArgs false
set_option linter.unusedVariables false
set_option linter.unusedSimpArgs false
namespace Go.Proofs.Ytidjapjidihbpaa
open Go.RowKit Go.Proofs.YtidjapjidihbpaaW.PrintWords
def KTk : Kd Tk := Kd.pair (Kd.int .i64) (Kd.pair (Kd.int .i64) (Kd.pair Kd.string (Kd.pair Kd.string Kd.string)))
theorem KTk_of (w : World) (base : Nat) (ok : Nat → Prop) (x : Tk) : KTk.M w base ok x [.int .i64 x.1, .int .i64 x.2.1, .string x.2.2.1, .string x.2.2.2.1, .string x.2.2.2.2] := ⟨[_], [_, _, _, _], rfl, rfl, [_], [_, _, _], rfl, rfl, [_], [_, _], rfl, rfl, [_], [_], rfl, rfl, rfl⟩
theorem info_took : (Try.prog.info? 70).map (fun i => (i.zero, i.size, i.bytes)) = some (some (.agg #[.int .i64 0, .int .i64 0, .string ⟨#[]⟩, .string ⟨#[]⟩, .string ⟨#[]⟩]), 5, 64) := by kernel_rfl
theorem KTk_inv {w : World} {x : Tk} {c : List Value} (h : KTk.K w x c) : c = [.int .i64 x.1, .int .i64 x.2.1, .string x.2.2.1, .string x.2.2.2.1, .string x.2.2.2.2] := by
  obtain ⟨c0, d0, rfl, h0, c1, d1, rfl, h1, c2, d2, rfl, h2, c3, d3, rfl, h3, h4⟩ := h
  have h0 : c0 = [.int .i64 x.1] := h0
  have h1 : c1 = [.int .i64 x.2.1] := h1
  have h2 : c2 = [.string x.2.2.1] := h2
  have h3 : c3 = [.string x.2.2.2.1] := h3
  have h4 : d3 = [.string x.2.2.2.2] := h4
  subst h0 h1 h2 h3 h4
  rfl
abbrev ATk (v : Value) (l : List Tk) : Asn := ARow KTk 70 v l
theorem C_nth_tk {w : World} {A : Option Addr} {n : Nat} {l : List Tk} (h : KTk.C w A n l) (k : Nat) (hk : k < n) :
    ∃ ad x, A = some ad ∧ l[k]? = some x ∧ w.cell? (ad.add (k * 5)) = some (.int .i64 x.1) ∧ w.cell? ⟨(ad.add (k * 5)).block, (ad.add (k * 5)).off + 1, none⟩ = some (.int .i64 x.2.1) ∧ w.cell? ⟨(ad.add (k * 5)).block, (ad.add (k * 5)).off + 2, none⟩ = some (.string x.2.2.1) ∧ w.cell? ⟨(ad.add (k * 5)).block, (ad.add (k * 5)).off + 3, none⟩ = some (.string x.2.2.2.1) ∧ w.cell? ⟨(ad.add (k * 5)).block, (ad.add (k * 5)).off + 4, none⟩ = some (.string x.2.2.2.2) := by
  obtain ⟨ad, x, c, hA, hx, _, hK, h3⟩ := C_nth h k hk
  have hc := KTk_inv hK
  subst hc
  have hsz : KTk.sz = 5 := rfl
  rw [hsz] at h3
  refine ⟨ad, x, hA, hx, h3 0 _ rfl, ?_, ?_, ?_, ?_⟩
  · have := h3 1 _ rfl; rw [← add_field ad _ 1 (by omega)]; exact this
  · have := h3 2 _ rfl; rw [← add_field ad _ 2 (by omega)]; exact this
  · have := h3 3 _ rfl; rw [← add_field ad _ 3 (by omega)]; exact this
  · have := h3 4 _ rfl; rw [← add_field ad _ 4 (by omega)]; exact this
set_option maxHeartbeats 800000 in
set_option maxRecDepth 100000 in
theorem idx_took (A : Option Addr) (n cap : Nat) (xs : List Tk) (p : Tk → Bool) (w : World) (hC : (KTk).C w A n xs)
    (hf : ∀ x ∈ xs, ∀ W, Calls Try.prog 39 #[.agg #[.int .i64 x.1, .int .i64 x.2.1, .string x.2.2.1, .string x.2.2.2.1, .string x.2.2.2.2]] W fun e w' => e = .returned (.bool (p x)) ∧ Below W.heap.size W w') :
    Calls Try.prog 46 #[.slice A n cap, .func (.func 39) #[] #[]] w fun e w' => (∃ i : Int, e = .returned (.int .i64 i) ∧ decide (0 ≤ i) = xs.any p) ∧ Below w.heap.size w w' := by
  have HN := Lib.hid (Kd.C_len hC)
  have HC := Lib.hid hC
  have HF := Lib.hid hf
  have hm := Kd.C_max hC
  clear hC hf
  go_enter Try.func46, Try.ntmps46
  go_wp2_with fail
  go_loopw [8] (fun i wr => ∃ j : Nat, i = .int .i64 j ∧ j ≤ n ∧ Hid ((xs.take j).any p = false) ∧ Below w.heap.size w wr) (fun i _ => n - (intOf i).toNat)
  case atStart => exact ⟨0, rfl, Nat.zero_le _, Lib.hid (by simp), Below.refl _ _⟩
  case round =>
    obtain ⟨j, rfl, hj, HNO, hB⟩ := hrel
    have HB := Lib.hid hB
    clear hB
    by_cases hjn : j < n
    · obtain ⟨ad, x, rfl, hx, d0, d1, d2, d3, d4⟩ := C_nth_tk (Kd.C_below HC.out HB.out) j hjn
      have i0 : (0 : Int) ≤ (j : Int) := by omega
      have i1 : (j : Int) < (n : Int) := by omega
      have HX := Lib.hid hx
      have htk : xs.take (j + 1) = xs.take j ++ [x] := by rw [List.take_add_one, hx]; rfl
      have HTK := Lib.hid htk
      clear hx htk
      cases hp : p x
      case' true =>
        have HP := Lib.hid hp
        clear hp
        go_wp2_with (go_at_call 39; refine Calls.mono (HF.out x (List.mem_of_getElem? HX.out) wr) ?_; rintro e w1 ⟨rfl, hB1⟩; have HB1 := Lib.hid (HB.out.trans (hB1.mono HB.out.size)); rw [HP.out])
        go_ret
        refine ⟨⟨_, rfl, ?_⟩, HB1.out⟩
        rw [decide_eq_true (by omega)]
        symm
        rw [List.any_eq_true]
        exact ⟨x, List.mem_of_getElem? HX.out, HP.out⟩
      case' false =>
        have HP := Lib.hid hp
        clear hp
        go_wp2_with (go_at_call 39; refine Calls.mono (HF.out x (List.mem_of_getElem? HX.out) wr) ?_; rintro e w1 ⟨rfl, hB1⟩; have HB1 := Lib.hid (HB.out.trans (hB1.mono HB.out.size)); rw [HP.out])
        refine ⟨⟨j + 1, by simp, by omega, Lib.hid ?_, HB1.out⟩, ?_⟩
        · rw [HTK.out, List.any_append, HNO.out]
          simp [HP.out]
        · simp [intOf]
          omega
    · have hjn' : j = n := by omega
      subst hjn'
      have htk : xs.take j = xs := List.take_of_length_le (by rw [HN.out]; exact Nat.le_refl _)
      rw [htk] at HNO
      go_wp2_with fail
      go_ret
      exact ⟨⟨_, rfl, by rw [HNO.out]; rfl⟩, HB.out⟩
set_option maxHeartbeats 400000 in
theorem has_took (A : Option Addr) (n cap : Nat) (xs : List Tk) (p : Tk → Bool) (w : World) (hC : (KTk).C w A n xs)
    (hf : ∀ x ∈ xs, ∀ W, Calls Try.prog 39 #[.agg #[.int .i64 x.1, .int .i64 x.2.1, .string x.2.2.1, .string x.2.2.2.1, .string x.2.2.2.2]] W fun e w' => e = .returned (.bool (p x)) ∧ Below W.heap.size W w') :
    Calls Try.prog 41 #[.slice A n cap, .func (.func 39) #[] #[]] w fun e w' => e = .returned (.bool (xs.any p)) ∧ Below w.heap.size w w' := by
  have HI := Lib.hid (idx_took A n cap xs p w hC hf)
  clear hC hf
  go_enter Try.func41, Try.ntmps41
  go_wp2_with fail
  refine Calls.mono HI.out ?_
  rintro e w1 ⟨⟨i, rfl, hi⟩, hB⟩
  have HII := Lib.hid hi
  have HB := Lib.hid hB
  clear hi hB
  go_wp2_with fail
  go_ret
  exact ⟨by rw [← HII.out]; rfl, HB.out⟩
set_option maxHeartbeats 800000 in
set_option maxRecDepth 100000 in
/-- A message that was received, one by one, is wrong. -/
theorem otherTook_any (x : Tk) (w : World) : Calls Try.prog 39 #[.agg #[.int .i64 x.1, .int .i64 x.2.1, .string x.2.2.1, .string x.2.2.2.1, .string x.2.2.2.2]] w fun e w' => e = .returned (.bool (!tkRight x)) ∧ Below w.heap.size w w' := by
  obtain ⟨x1, x2, x3, x4, x5⟩ := x
  obtain ⟨b1, h1⟩ : ∃ b, b = okNum x1 := ⟨_, rfl⟩
  obtain ⟨b2, h2⟩ : ∃ b, b = okNum x2 := ⟨_, rfl⟩
  obtain ⟨b3, h3⟩ : ∃ b, b = okText x3 := ⟨_, rfl⟩
  obtain ⟨b4, h4⟩ : ∃ b, b = okText x4 := ⟨_, rfl⟩
  obtain ⟨b5, h5⟩ : ∃ b, b = okText x5 := ⟨_, rfl⟩
  obtain ⟨r, hr⟩ : ∃ r, r = tkRight (x1, (x2, (x3, (x4, x5)))) := ⟨_, rfl⟩
  have hr2 : r = (b1 && (b2 && (b3 && (b4 && b5)))) := by rw [hr, h1, h2, h3, h4, h5]; rfl
  rw [← hr]
  dsimp only
  have HN := Lib.hid (fun (v : Int) (W : World) => show Calls Try.prog 27 #[.int .i64 v] W fun e w' => e = .returned (.bool (okNum v)) ∧ W = w' from number_any v W)
  have HT := Lib.hid (fun (v : ByteArray) (W : World) => show Calls Try.prog 29 #[.string v] W fun e w' => e = .returned (.bool (okText v)) ∧ W = w' from text_any v W)
  have H1 := Lib.hid h1
  have H2 := Lib.hid h2
  have H3 := Lib.hid h3
  have H4 := Lib.hid h4
  have H5 := Lib.hid h5
  have HR := Lib.hid hr2
  clear hr hr2 h1 h2 h3 h4 h5
  have hc : b1 = false ∨ ((b1 = true ∧ b2 = false) ∨ ((b1 = true ∧ b2 = true ∧ b3 = false) ∨ ((b1 = true ∧ b2 = true ∧ b3 = true ∧ b4 = false) ∨ (b1 = true ∧ b2 = true ∧ b3 = true ∧ b4 = true)))) := by cases b1 <;> cases b2 <;> cases b3 <;> cases b4 <;> simp
  rcases hc with rfl | ⟨rfl, rfl⟩ | ⟨rfl, rfl, rfl⟩ | ⟨rfl, rfl, rfl, rfl⟩ | ⟨rfl, rfl, rfl, rfl⟩
  all_goals
    go_enter Try.func39, Try.ntmps39
    go_wp2_with (first | (go_at_call 27; refine Calls.mono (HN.out _ _) ?_; (first | rw [← H1.out] | rw [← H2.out]); rintro e w1 ⟨rfl, rfl⟩) | (go_at_call 29; refine Calls.mono (HT.out _ _) ?_; (first | rw [← H3.out] | rw [← H4.out] | rw [← H5.out]); rintro e w1 ⟨rfl, rfl⟩))
    go_ret
    rw [HR.out]
    exact ⟨by simp, below_alloc (Below.refl _ _) _⟩
end Go.Proofs.Ytidjapjidihbpaa
set_option linter.unusedVariables false
set_option linter.unusedSimpArgs false
namespace Go.Proofs.Ytidjapjidihbpaa
open Go.RowKit Go.Proofs.YtidjapjidihbpaaW.PrintWords
/-- An answer as it is handed over. -/
def anCells (a : An) (vi vt : Value) : Array Value := #[.int .i64 a.code, vi, vt]
theorem wrongNum_any (v : Int) (w : World) : Calls Try.prog 38 #[.int .i64 v] w fun e w' => e = .returned (.bool (!okNum v)) ∧ w = w' := by
  obtain ⟨b, hb⟩ : ∃ b, b = okNum v := ⟨_, rfl⟩
  rw [← hb]
  have HB := Lib.hid hb
  clear hb
  go_enter Try.func38, Try.ntmps38
  go_wp2_with fail
  refine Calls.mono (number_any v w) ?_
  rintro e w1 ⟨rfl, rfl⟩
  rw [show decide (0 ≤ v ∧ v ≤ 4611686018427387904) = b from HB.out.symm]
  go_wp2_with fail
  go_ret
  exact ⟨rfl, rfl⟩
theorem hasId_any {w : World} {A : Option Addr} {n cap : Nat} {xs : List Int} (hC : (Kd.int .i64).C w A n xs) :
    Calls Try.prog 40 #[.slice A n cap, .func (.func 38) #[] #[]] w fun e w' => e = .returned (.bool (!xs.all okNum)) ∧ w = w' := by
  have : xs.any (fun s => !okNum s) = !xs.all okNum := by rw [List.not_all_eq_any_not]
  rw [← this]
  exact has_int A n cap xs (fun s => !okNum s) w hC (fun x _ => wrongNum_any x w)
theorem hasTook_any {w : World} {A : Option Addr} {n cap : Nat} {xs : List Tk} (hC : KTk.C w A n xs) :
    Calls Try.prog 41 #[.slice A n cap, .func (.func 39) #[] #[]] w fun e w' => e = .returned (.bool (!xs.all tkRight)) ∧ Below w.heap.size w w' := by
  have : xs.any (fun s => !tkRight s) = !xs.all tkRight := by rw [List.not_all_eq_any_not]
  rw [← this]
  exact has_took A n cap xs (fun s => !tkRight s) w hC (fun x _ W => otherTook_any x W)
set_option maxHeartbeats 1600000 in
set_option maxRecDepth 100000 in
theorem rightA_any (a : An) (A : Option Addr) (n c : Nat) (B : Option Addr) (m d : Nat) (w : World) (hC : (Kd.int .i64).C w A n a.ids) (hD : KTk.C w B m a.took) :
    Calls Try.prog 24 #[.agg (anCells a (.slice A n c) (.slice B m d))] w fun e w' => e = .returned (.bool (anRight a)) ∧ Below w.heap.size w w' := by
  have HC := Lib.hid hC
  have HD := Lib.hid hD
  have HN := Lib.hid (Kd.C_len hC)
  have HM := Lib.hid (Kd.C_len hD)
  clear hC hD
  have HP0 := Lib.hid ((Hp.nil w).alloc (.cells (anCells a (.slice A n c) (.slice B m d)) 48))
  obtain ⟨x0, x1, x2, xf⟩ := blk3c (by exact HP0.out.blk0)
  obtain ⟨b1, h1⟩ : ∃ b, b = okNum a.code := ⟨_, rfl⟩
  obtain ⟨b4, h4⟩ : ∃ b, b = a.ids.all okNum := ⟨_, rfl⟩
  obtain ⟨b5, h5⟩ : ∃ b, b = a.took.all tkRight := ⟨_, rfl⟩
  obtain ⟨r, hr⟩ : ∃ r, r = anRight a := ⟨_, rfl⟩
  have hr2 : r = (b1 && (decide (n ≤ 10) && (decide (m ≤ 10) && (b4 && b5)))) := by rw [hr, h1, h4, h5, ← HN.out, ← HM.out]; rfl
  rw [← hr]
  have H1 := Lib.hid h1
  have H4 := Lib.hid h4
  have H5 := Lib.hid h5
  have HR := Lib.hid hr2
  have hc : b1 = false ∨ ((b1 = true ∧ ¬ n ≤ 10) ∨ ((b1 = true ∧ n ≤ 10 ∧ ¬ m ≤ 10) ∨ ((b1 = true ∧ n ≤ 10 ∧ m ≤ 10 ∧ b4 = false) ∨ (b1 = true ∧ n ≤ 10 ∧ m ≤ 10 ∧ b4 = true)))) := by
    by_cases hn : n ≤ 10 <;> by_cases hm : m ≤ 10 <;> cases b1 <;> cases b4 <;> simp [hn, hm]
  clear hr hr2 h1 h4 h5
  unfold anCells
  rcases hc with rfl | ⟨rfl, hn⟩ | ⟨rfl, hn, hm⟩ | ⟨rfl, hn, hm, rfl⟩ | ⟨rfl, hn, hm, rfl⟩
  case' inl => have HRR := Lib.hid (show r = false by rw [HR.out]; rfl)
  case' inr.inl =>
    have hn1 : ¬ (n : Int) ≤ 10 := by omega
    have HRR := Lib.hid (show r = false by rw [HR.out]; simp [hn])
  case' inr.inr.inl =>
    have hn1 : (n : Int) ≤ 10 := by omega
    have hm1 : ¬ (m : Int) ≤ 10 := by omega
    have HRR := Lib.hid (show r = false by rw [HR.out]; simp [hm])
  case' inr.inr.inr.inl =>
    have hn1 : (n : Int) ≤ 10 := by omega
    have hm1 : (m : Int) ≤ 10 := by omega
    have HRR := Lib.hid (show r = false by rw [HR.out]; simp)
  case' inr.inr.inr.inr =>
    have hn1 : (n : Int) ≤ 10 := by omega
    have hm1 : (m : Int) ≤ 10 := by omega
    have HRR := Lib.hid (show r = b5 by rw [HR.out]; simp [hn, hm])
  all_goals
    go_enter Try.func24, Try.ntmps24
    go_wp2_with (first | (go_at_call 27; refine Calls.mono (show Calls Try.prog 27 #[.int .i64 a.code] _ fun e w' => e = .returned (.bool (okNum a.code)) ∧ _ = w' from number_any a.code _) ?_; rw [← H1.out]; rintro e w1 ⟨rfl, rfl⟩) | (go_at_call 40; refine Calls.mono (hasId_any (Kd.C_below HC.out HP0.out.belowW)) ?_; rw [← H4.out]; rintro e w1 ⟨rfl, rfl⟩) | (go_at_call 41; refine Calls.mono (hasTook_any (Kd.C_below HD.out HP0.out.belowW)) ?_; rw [← H5.out]; rintro e w2 ⟨rfl, hB2⟩; have HP2 := Lib.hid (HP0.out.below hB2)))
    go_ret
    rw [HRR.out]
    first
      | exact ⟨rfl, HP2.out.belowW⟩
      | exact ⟨rfl, HP0.out.belowW⟩
end Go.Proofs.Ytidjapjidihbpaa
set_option linter.unusedVariables false
set_option linter.unusedSimpArgs false
namespace Go.Proofs.Ytidjapjidihbpaa
open Go.RowKit Go.Proofs.YtidjapjidihbpaaW.PrintWords Go.Proofs.YtidjapjidihbpaaW.PrintLast
theorem blk5 {w : World} {g t : Nat} {x0 x1 x2 x3 x4 : Value} (h : w.heap[g]? = some (.cells #[x0, x1, x2, x3, x4] t (0, 0))) :
    w.cell? ⟨g, 0, none⟩ = some x0 ∧ w.cell? ⟨g, 1, none⟩ = some x1 ∧ w.cell? ⟨g, 2, none⟩ = some x2 ∧ w.cell? ⟨g, 3, none⟩ = some x3 ∧ w.cell? ⟨g, 4, none⟩ = some x4 :=
  ⟨blk_cell h 0, blk_cell h 1, blk_cell h 2, blk_cell h 3, blk_cell h 4⟩
theorem rdNums {w : World} {A : Option Addr} {n cap : Nat} {xs : List Int} (h : Rd w A n cap xs) (hl : xs.length ≤ 100000) {B : Option Addr} {k bcap : Nat} {ys : List Int} (hD : (Kd.int .i64).C w B k ys) (hk : k ≤ 1000) (hy : ∀ y ∈ ys, y ≤ 9223372036854775807) :
    Calls Try.prog 25 #[.slice A n cap, .slice B k bcap] w fun e w' => ∃ A' n' c', e = .returned (.slice A' n' c') ∧ Rd w' A' n' c' (xs ++ encNum k ++ (ys.map encNum).flatten) ∧ Below w.heap.size w w' := by
  refine Calls.mono (coNums_any A n cap xs B k bcap ys w h.1 h.2 (by rw [h.len]; exact hl) hD hk hy) ?_
  rintro e w' ⟨A', n', c', rfl, hR, hB⟩
  exact ⟨A', n', c', rfl, Rd.of hR, hB⟩
def encAns0 (a : An) : List Int := encNum a.code ++ encNum a.ids.length ++ (a.ids.map encNum).flatten ++ encNum a.took.length
theorem encAns_at (a : An) : encAns a = encAns0 a ++ (a.took.map encTook).flatten := rfl
theorem encTook_len {x : Tk} (h : TkOk x) : (encTook x).length ≤ 813 := by
  obtain ⟨h1, h2, h3, h4, h5⟩ := h
  have e1 := encNum_len (v := x.1) (by omega)
  have e2 := encNum_len (v := x.2.1) (by omega)
  have e3 := encText_len h3
  have e4 := encText_len h4
  have e5 := encText_len h5
  unfold encTook
  simp only [List.length_append]
  omega
theorem encAns0_len {a : An} (h : anRight a = true) : (encAns0 a).length ≤ 200 ∧ (encNum a.code ++ encNum a.ids.length ++ (a.ids.map encNum).flatten).length ≤ 150 := by
  obtain ⟨h1, h2, h3, h4, _⟩ := an_parts h
  have e1 := encNum_len (v := a.code) (by omega)
  have e2 := encNum_len (v := (a.ids.length : Int)) (by omega)
  have e3 := encNum_len (v := (a.took.length : Int)) (by omega)
  have e4 := flat_le (f := encNum) (b := 9) (xs := a.ids) (fun x hx => encNum_len (by have := h4 x hx; omega)) a.ids.length
  rw [List.take_length] at e4
  unfold encAns0
  simp only [List.length_append]
  omega
set_option maxHeartbeats 1600000 in
set_option maxRecDepth 100000 in
theorem writeA_any (a : An) (A : Option Addr) (n c : Nat) (B : Option Addr) (m d : Nat) (w : World) (hC : (Kd.int .i64).C w A n a.ids) (hD : KTk.C w B m a.took) :
    Calls Try.prog 11 #[.agg (anCells a (.slice A n c) (.slice B m d))] w fun e w' =>
      (anRight a = true → ∃ A' n' c', e = .returned (.tuple #[.slice A' n' c', .nilIface]) ∧ Rd w' A' n' c' (encAns a)) ∧
      (anRight a = false → ∃ fb, e = .returned (.tuple #[.slice none 0 0, .iface 78 (.pointer (some ⟨fb, 0, none⟩))]) ∧ w.heap.size ≤ fb ∧ w'.heap[fb]? = some (fault 0 1)) ∧ Below w.heap.size w w' := by
  have HC := Lib.hid hC
  have HD := Lib.hid hD
  have HN := Lib.hid (Kd.C_len hC)
  have HM := Lib.hid (Kd.C_len hD)
  have HRT := Lib.hid (fun (W : World) (h : Below w.heap.size w W) => rightA_any a A n c B m d W (Kd.C_below hC h) (Kd.C_below hD h))
  clear hC hD
  have HP0 := Lib.hid ((Hp.nil w).alloc (.cells (anCells a (.slice A n c) (.slice B m d)) 48))
  obtain ⟨x0, x1, x2, xf⟩ := blk3c (by exact HP0.out.blk0)
  obtain ⟨r, hr⟩ : ∃ r, r = anRight a := ⟨_, rfl⟩
  rw [← hr] at HRT ⊢
  have HR := Lib.hid hr
  clear hr
  unfold anCells at HRT HP0 ⊢
  cases r
  case false =>
    go_enter Try.func11, Try.ntmps11
    go_wp2_with fail
    refine Calls.mono (HRT.out _ HP0.out.belowW) ?_
    rintro e w1 ⟨rfl, hB⟩
    have HP1 := Lib.hid (HP0.out.below hB)
    clear hB
    go_wp2_with fail
    refine Calls.mono (refused_any 1 0 _) ?_
    rintro e w2 ⟨fb, rfl, h1, h2, hB⟩
    have HF := Lib.hid h2
    have HP2 := Lib.hid (HP1.out.below hB)
    have hfb : w.heap.size ≤ fb := Nat.le_trans HP1.out.belowW.size h1
    clear h1 h2 hB
    go_wp2_with fail
    go_ret2
    exact ⟨fun h => absurd h (by decide), fun _ => ⟨fb, rfl, hfb, HF.out⟩, HP2.out.belowW⟩
  case true =>
  obtain ⟨p1, p2, p3, p4, p5⟩ := an_parts HR.out.symm
  have HL := Lib.hid (encAns0_len HR.out.symm)
  have hn10 : n ≤ 10 := by rw [← HN.out]; exact p2
  have hm10 : m ≤ 10 := by rw [← HM.out]; exact p3
  have HVS := Lib.hid (show ∀ y ∈ a.ids, y ≤ 9223372036854775807 from fun y hy => by have := p4 y hy; omega)
  have HTK := Lib.hid (show ∀ x ∈ a.took, TkOk x from p5)
  have hcd := p1
  have HL1 := Lib.hid (encNum_len (v := a.code) (by omega))
  clear p1 p2 p3 p4 p5
  go_enter Try.func11, Try.ntmps11
  go_wp2_with fail
  refine Calls.mono (HRT.out _ HP0.out.belowW) ?_
  rintro e w1 ⟨rfl, hB⟩
  have HP1 := Lib.hid (HP0.out.below hB)
  clear hB x0 x1 x2 xf
  go_upto_region 3 with (fail)
  have HL5 : Hid (([] ++ encNum a.code ++ encNum n ++ (a.ids.map encNum).flatten).length ≤ 150) := Lib.hid (by rw [List.nil_append, ← HN.out]; exact HL.out.2)
  have HPd := Lib.hid (HP1.out.below (Below.refl _ _).drew)
  refine start_ (n := 11) (S := fun w' => w'.heap[w.heap.size]? = some (.cells #[.int .i64 a.code, .slice A n c, .slice B m d] 48)) (ds := []) #[false, false, false, false, false, false, false, false, false, false, false] (by kernel_rfl) rfl rfl (HPd.out.blk0) (fun hHeld => ?_)
  generalize w1.drew = wd at *
  refine pure_ (i := 0) (N := (some 11)) (v := ?_) (a' := ?_) #[true, false, false, false, false, false, false, false, false, false, false] rfl rfl (by kernel_rfl) (fun _ _ _ h => h) (Or.inl ⟨by rfl, ?_⟩) ?_ ?_
  rotate_left
  · intro w'
    go_simp
    with_reducible rfl
  rotate_left
  · simp only [Act.put, List.setIfInBounds_toArray, List.set_cons_zero, List.set_cons_succ, i64_w, i32_w]
    rfl
  refine pure_ (i := 3) (N := (some 14)) (v := ?_) (a' := ?_) #[true, false, false, true, false, false, false, false, false, false, false] rfl rfl (by kernel_rfl) (fun _ _ _ h => h) (Or.inl ⟨by rfl, ?_⟩) ?_ ?_
  rotate_left
  · intro w'
    go_simp
    with_reducible rfl
  rotate_left
  · simp only [Act.put, List.setIfInBounds_toArray, List.set_cons_zero, List.set_cons_succ, i64_w, i32_w]
    rfl
  refine pure_ (i := 6) (N := (some 17)) (v := ?_) (a' := ?_) #[true, false, false, true, false, false, true, false, false, false, false] rfl rfl (by kernel_rfl) (fun _ _ _ h => h) (Or.inl ⟨by rfl, ?_⟩) ?_ ?_
  rotate_left
  · intro w'
    go_simp
    with_reducible rfl
  rotate_left
  · simp only [Act.put, List.setIfInBounds_toArray, List.set_cons_zero, List.set_cons_succ, i64_w, i32_w]
    rfl
  refine take_ (i := 1) (N := (some 12)) (v := ?_) (a' := ?_) #[true, true, false, true, false, false, true, false, false, false, false] rfl rfl (by kernel_rfl) (fun _ _ _ h => h) (Or.inl ⟨by rfl, ?_⟩) hHeld ?_ ?_
  rotate_left
  · rintro w' hh
    obtain ⟨g0, g1, g2, _⟩ := blk3c hh
    go_simp
    with_reducible rfl
  rotate_left
  · simp only [Act.put, List.setIfInBounds_toArray, List.set_cons_zero, List.set_cons_succ, i64_w, i32_w]
    rfl
  refine take_ (i := 4) (N := (some 15)) (v := ?_) (a' := ?_) #[true, true, false, true, true, false, true, false, false, false, false] rfl rfl (by kernel_rfl) (fun _ _ _ h => h) (Or.inl ⟨by rfl, ?_⟩) hHeld ?_ ?_
  rotate_left
  · rintro w' hh
    obtain ⟨g0, g1, g2, _⟩ := blk3c hh
    go_simp
    with_reducible rfl
  rotate_left
  · simp only [Act.put, List.setIfInBounds_toArray, List.set_cons_zero, List.set_cons_succ, i64_w, i32_w]
    rfl
  refine take_ (i := 7) (N := (some 18)) (v := ?_) (a' := ?_) #[true, true, false, true, true, false, true, true, false, false, false] rfl rfl (by kernel_rfl) (fun _ _ _ h => h) (Or.inl ⟨by rfl, ?_⟩) hHeld ?_ ?_
  rotate_left
  · rintro w' hh
    obtain ⟨g0, g1, g2, _⟩ := blk3c hh
    go_simp
    with_reducible rfl
  rotate_left
  · simp only [Act.put, List.setIfInBounds_toArray, List.set_cons_zero, List.set_cons_succ, i64_w, i32_w]
    rfl
  refine pure_ (i := 8) (N := (some 19)) (v := ?_) (a' := ?_) #[true, true, false, true, true, false, true, true, true, false, false] rfl rfl (by kernel_rfl) (fun _ _ _ h => h) (Or.inl ⟨by rfl, ?_⟩) ?_ ?_
  rotate_left
  · intro w'
    go_simp
    with_reducible rfl
  rotate_left
  · simp only [Act.put, List.setIfInBounds_toArray, List.set_cons_zero, List.set_cons_succ, i64_w, i32_w]
    rfl
  refine one_ (i := 2) (N := (some 13)) #[true, true, true, true, true, false, true, true, true, false, false] rfl rfl (by kernel_rfl) (by decide) (fun K hK => ?_)
  refine goes_ Try.func15 (by kernel_rfl) rfl #[.slice none 0 0, .int .i64 a.code] (by rfl) rfl rfl (by first | rfl | (go_simp; done) | (simp [Act.eval]; done) | (simp [Act.eval]; rfl)) ?_
  refine Calls.mono (rdNum (Rd.nil wd 0) (by simp) (by omega)) ?_
  rintro e w4 ⟨A4, n4, c4, rfl, hR, hB⟩
  have HR4 := Lib.hid hR
  have HP4 := Lib.hid (HPd.out.below hB)
  clear hR hB
  refine ⟨_, rfl, ?_⟩
  refine hK.out _ _ (HP4.out.blk0) (fun hHeld => ?_)
  clear hK K
  refine norm_ (a' := ?_) ?_ ?_
  rotate_left
  · show Act.put _ (some 13) _ = _
    simp only [Act.put, List.setIfInBounds_toArray, List.set_cons_zero, List.set_cons_succ, i64_w, i32_w]
    rfl
  refine one_ (i := 5) (N := (some 16)) #[true, true, true, true, true, true, true, true, true, false, false] rfl rfl (by kernel_rfl) (by decide) (fun K hK => ?_)
  refine goes_ Try.func25 (by kernel_rfl) rfl #[.slice A4 n4 c4, .slice A n c] (by rfl) rfl rfl (by first | rfl | (go_simp; done) | (simp [Act.eval]; done) | (simp [Act.eval]; rfl)) ?_
  refine Calls.mono (rdNums HR4.out (by have := HL1.out; simp only [List.length_append, List.length_nil]; omega) (Kd.C_below HC.out HP4.out.belowW) (by omega) HVS.out) ?_
  rintro e w5 ⟨A5, n5, c5, rfl, hR, hB⟩
  have HR5 := Lib.hid hR
  have HP5 := Lib.hid (HP4.out.below hB)
  clear hR hB
  refine ⟨_, rfl, ?_⟩
  refine hK.out _ _ (HP5.out.blk0) (fun hHeld => ?_)
  clear hK K
  refine norm_ (a' := ?_) ?_ ?_
  rotate_left
  · show Act.put _ (some 16) _ = _
    simp only [Act.put, List.setIfInBounds_toArray, List.set_cons_zero, List.set_cons_succ, i64_w, i32_w]
    rfl
  refine one_ (i := 9) (N := (some 20)) #[true, true, true, true, true, true, true, true, true, true, false] rfl rfl (by kernel_rfl) (by decide) (fun K hK => ?_)
  refine goes_ Try.func15 (by kernel_rfl) rfl #[.slice A5 n5 c5, .int .i64 (m : Int)] (by rfl) rfl rfl (by first | rfl | (go_simp; done) | (simp [Act.eval]; done) | (simp [Act.eval]; rfl)) ?_
  refine Calls.mono (rdNum HR5.out (Nat.le_trans HL5.out (by decide)) (by omega)) ?_
  rintro e w6 ⟨A6, n6, c6, rfl, hR, hB⟩
  have HR6 := Lib.hid hR
  have HP6 := Lib.hid (HP5.out.below hB)
  clear hR hB
  refine ⟨_, rfl, ?_⟩
  refine hK.out _ _ (HP6.out.blk0) (fun hHeld => ?_)
  clear hK K
  refine norm_ (a' := ?_) ?_ ?_
  rotate_left
  · show Act.put _ (some 20) _ = _
    simp only [Act.put, List.setIfInBounds_toArray, List.set_cons_zero, List.set_cons_succ, i64_w, i32_w]
    rfl
  refine pure_ (i := 10) (N := (some 4)) (v := ?_) (a' := ?_) #[true, true, true, true, true, true, true, true, true, true, true] rfl rfl (by kernel_rfl) (fun _ _ _ h => h) (Or.inl ⟨by rfl, ?_⟩) ?_ ?_
  rotate_left
  · intro w'
    go_simp
    with_reducible rfl
  rotate_left
  · simp only [Act.put, List.setIfInBounds_toArray, List.set_cons_zero, List.set_cons_succ, i64_w, i32_w]
    rfl
  refine done_ (by kernel_rfl) ?_
  have hR6 : Rd w6 A6 n6 c6 (encAns0 a) := by
    have h := HR6.out
    rw [List.nil_append, ← HN.out, ← HM.out] at h
    exact h
  have HRX := Lib.hid hR6
  have hb2 := blk_cell HP6.out.blk0 2
  simp only [List.getElem?_toArray, List.getElem?_cons_zero, List.getElem?_cons_succ] at hb2
  clear hR6
  go_wp2_with fail
  go_loopw [4, 24] (fun o i wr => ∃ (j : Nat) (A2 : Option Addr) (n2 c2 : Nat), i = .int .i64 j ∧ j ≤ m ∧ o = .slice A2 n2 c2 ∧ Rd wr A2 n2 c2 (encAns0 a ++ ((a.took.take j).map encTook).flatten) ∧ Hp w wr []) (fun _ i _ => m - (intOf i).toNat)
  case atStart => exact ⟨0, A6, n6, c6, rfl, Nat.zero_le _, rfl, by simpa using HRX.out, HP6.out.forget⟩
  case round =>
    obtain ⟨j, A2, n2, c2, rfl, hj, rfl, hRd, hQ⟩ := hrel
    have HRQ := Lib.hid hRd
    have HQ := Lib.hid hQ
    clear hRd hQ
    by_cases hjm : j < m
    case neg =>
      have hj' : j = m := by omega
      subst hj'
      have htk : a.took.take j = a.took := List.take_of_length_le (by rw [HM.out]; exact Nat.le_refl _)
      rw [htk, ← encAns_at] at HRQ
      clear htk
      go_wp2_with fail
      go_ret2
      exact ⟨fun _ => ⟨A2, n2, c2, rfl, HRQ.out⟩, fun h => absurd h (by decide), HQ.out.belowW⟩
    case pos =>
      have j0 : (0 : Int) ≤ (j : Int) := by omega
      have j1 : (j : Int) < (m : Int) := by omega
      obtain ⟨adr, ⟨x1, x2, x3, x4, x5⟩, rfl, hx, d0, d1, d2, d3, d4⟩ := C_nth_tk (Kd.C_below HD.out HQ.out.belowW) j hjm
      have hok := HTK.out _ (List.mem_of_getElem? hx)
      have HNX := Lib.hid (flat_next (f := encTook) hx)
      obtain ⟨k1, k2, k3, k4, k5⟩ := hok
      dsimp only at d0 d1 d2 d3 d4 k1 k2 k3 k4 k5
      have HE1 := Lib.hid (encNum_len (v := x1) (by omega))
      have HE2 := Lib.hid (encNum_len (v := x2) (by omega))
      have HE3 := Lib.hid (encText_len k3)
      have HE4 := Lib.hid (encText_len k4)
      have HXL : Hid ((encAns0 a).length + (((a.took.take j).map encTook).flatten).length ≤ 20000) := Lib.hid (by
        have h1 := HL.out.1
        have h2 := flat_le (f := encTook) (b := 813) (xs := a.took) (fun x hx => encTook_len (HTK.out x hx)) j
        rw [HM.out] at h2
        omega)
      have HX := Lib.hid (HQ.out.alloc (.cells #[.int .i64 x1, .int .i64 x2, .string x3, .string x4, .string x5] 70))
      obtain ⟨xb, hxb⟩ : ∃ xb, xb = wr.heap.size := ⟨_, rfl⟩
      have HBW : Hid (Below wr.heap.size wr (wr.alloc (.cells #[.int .i64 x1, .int .i64 x2, .string x3, .string x4, .string x5] 70))) := Lib.hid (below_alloc (Below.refl _ _) _)
      clear hx
      go_upto_region 7 with (fail)
      rw [← hxb] at HX ⊢
      clear hxb d0 d1 d2 d3 d4
      generalize wr.alloc (.cells #[.int .i64 x1, .int .i64 x2, .string x3, .string x4, .string x5] 70) = W at *
      have HPd := Lib.hid (HX.out.below (Below.refl _ _).drew)
      have HBD := Lib.hid (HBW.out.drew)
      refine start_ (n := 8) (S := fun w' => w'.heap[xb]? = some (.cells #[.int .i64 x1, .int .i64 x2, .string x3, .string x4, .string x5] 70)) (ds := []) #[false, false, false, false, false, false, false, false] (by kernel_rfl) rfl rfl (HPd.out.blk0) (fun hHeld => ?_)
      generalize W.drew = wd at *
      refine pure_ (i := 0) (N := (some 28)) (v := ?_) (a' := ?_) #[true, false, false, false, false, false, false, false] rfl rfl (by kernel_rfl) (fun _ _ _ h => h) (Or.inl ⟨by rfl, ?_⟩) ?_ ?_
      rotate_left
      · intro w'
        go_simp
        with_reducible rfl
      rotate_left
      · simp only [Act.put, List.setIfInBounds_toArray, List.set_cons_zero, List.set_cons_succ, i64_w, i32_w]
        rfl
      refine pure_ (i := 1) (N := (some 29)) (v := ?_) (a' := ?_) #[true, true, false, false, false, false, false, false] rfl rfl (by kernel_rfl) (fun _ _ _ h => h) (Or.inl ⟨by rfl, ?_⟩) ?_ ?_
      rotate_left
      · intro w'
        go_simp
        with_reducible rfl
      rotate_left
      · simp only [Act.put, List.setIfInBounds_toArray, List.set_cons_zero, List.set_cons_succ, i64_w, i32_w]
        rfl
      refine pure_ (i := 4) (N := (some 32)) (v := ?_) (a' := ?_) #[true, true, false, false, true, false, false, false] rfl rfl (by kernel_rfl) (fun _ _ _ h => h) (Or.inl ⟨by rfl, ?_⟩) ?_ ?_
      rotate_left
      · intro w'
        go_simp
        with_reducible rfl
      rotate_left
      · simp only [Act.put, List.setIfInBounds_toArray, List.set_cons_zero, List.set_cons_succ, i64_w, i32_w]
        rfl
      refine take_ (i := 2) (N := (some 30)) (v := ?_) (a' := ?_) #[true, true, true, false, true, false, false, false] rfl rfl (by kernel_rfl) (fun _ _ _ h => h) (Or.inl ⟨by rfl, ?_⟩) hHeld ?_ ?_
      rotate_left
      · rintro w' hh
        obtain ⟨g0, g1, g2, g3, g4⟩ := blk5 hh
        go_simp
        with_reducible rfl
      rotate_left
      · simp only [Act.put, List.setIfInBounds_toArray, List.set_cons_zero, List.set_cons_succ, i64_w, i32_w]
        rfl
      refine take_ (i := 5) (N := (some 33)) (v := ?_) (a' := ?_) #[true, true, true, false, true, true, false, false] rfl rfl (by kernel_rfl) (fun _ _ _ h => h) (Or.inl ⟨by rfl, ?_⟩) hHeld ?_ ?_
      rotate_left
      · rintro w' hh
        obtain ⟨g0, g1, g2, g3, g4⟩ := blk5 hh
        go_simp
        with_reducible rfl
      rotate_left
      · simp only [Act.put, List.setIfInBounds_toArray, List.set_cons_zero, List.set_cons_succ, i64_w, i32_w]
        rfl
      refine one_ (i := 3) (N := (some 31)) #[true, true, true, true, true, true, false, false] rfl rfl (by kernel_rfl) (by decide) (fun K hK => ?_)
      refine goes_ Try.func15 (by kernel_rfl) rfl #[.slice A2 n2 c2, .int .i64 x1] (by rfl) rfl rfl (by first | rfl | (go_simp; done) | (simp [Act.eval]; done) | (simp [Act.eval]; rfl)) ?_
      refine Calls.mono (rdNum (HRQ.out.below HBD.out) (by rw [List.length_append]; exact Nat.le_trans HXL.out (by decide)) (by omega)) ?_
      rintro e w4 ⟨A4, n4, c4, rfl, hR, hB⟩
      have HR4 := Lib.hid hR
      have HP4 := Lib.hid (HPd.out.below hB)
      clear hR hB
      refine ⟨_, rfl, ?_⟩
      refine hK.out _ _ (HP4.out.blk0) (fun hHeld => ?_)
      clear hK K
      refine norm_ (a' := ?_) ?_ ?_
      rotate_left
      · show Act.put _ (some 31) _ = _
        simp only [Act.put, List.setIfInBounds_toArray, List.set_cons_zero, List.set_cons_succ, i64_w, i32_w]
        rfl
      refine one_ (i := 6) (N := (some 34)) #[true, true, true, true, true, true, true, false] rfl rfl (by kernel_rfl) (by decide) (fun K hK => ?_)
      refine goes_ Try.func15 (by kernel_rfl) rfl #[.slice A4 n4 c4, .int .i64 x2] (by rfl) rfl rfl (by first | rfl | (go_simp; done) | (simp [Act.eval]; done) | (simp [Act.eval]; rfl)) ?_
      refine Calls.mono (rdNum HR4.out (by simp only [List.length_append]; have := HXL.out; have := HE1.out; omega) (by omega)) ?_
      rintro e w5 ⟨A5, n5, c5, rfl, hR, hB⟩
      have HR5 := Lib.hid hR
      have HP5 := Lib.hid (HP4.out.below hB)
      clear hR hB
      refine ⟨_, rfl, ?_⟩
      refine hK.out _ _ (HP5.out.blk0) (fun hHeld => ?_)
      clear hK K
      refine norm_ (a' := ?_) ?_ ?_
      rotate_left
      · show Act.put _ (some 34) _ = _
        simp only [Act.put, List.setIfInBounds_toArray, List.set_cons_zero, List.set_cons_succ, i64_w, i32_w]
        rfl
      refine pure_ (i := 7) (N := (some 4)) (v := ?_) (a' := ?_) #[true, true, true, true, true, true, true, true] rfl rfl (by kernel_rfl) (fun _ _ _ h => h) (Or.inl ⟨by rfl, ?_⟩) ?_ ?_
      rotate_left
      · intro w'
        go_simp
        with_reducible rfl
      rotate_left
      · simp only [Act.put, List.setIfInBounds_toArray, List.set_cons_zero, List.set_cons_succ, i64_w, i32_w]
        rfl
      refine done_ (by kernel_rfl) ?_
      go_upto_region 8 with (fail)
      have HPe := Lib.hid (HP5.out.below (Below.refl _ _).drew)
      have HRE := Lib.hid (HR5.out.below (Below.refl _ _).drew)
      refine start_ (n := 11) (S := fun w' => w'.heap[xb]? = some (.cells #[.int .i64 x1, .int .i64 x2, .string x3, .string x4, .string x5] 70)) (ds := []) #[false, false, false, false, false, false, false, false, false, false, false] (by kernel_rfl) rfl rfl (HPe.out.blk0) (fun hHeld => ?_)
      generalize w5.drew = we at *
      refine pure_ (i := 0) (N := (some 35)) (v := ?_) (a' := ?_) #[true, false, false, false, false, false, false, false, false, false, false] rfl rfl (by kernel_rfl) (fun _ _ _ h => h) (Or.inl ⟨by rfl, ?_⟩) ?_ ?_
      rotate_left
      · intro w'
        go_simp
        with_reducible rfl
      rotate_left
      · simp only [Act.put, List.setIfInBounds_toArray, List.set_cons_zero, List.set_cons_succ, i64_w, i32_w]
        rfl
      refine pure_ (i := 1) (N := (some 36)) (v := ?_) (a' := ?_) #[true, true, false, false, false, false, false, false, false, false, false] rfl rfl (by kernel_rfl) (fun _ _ _ h => h) (Or.inl ⟨by rfl, ?_⟩) ?_ ?_
      rotate_left
      · intro w'
        go_simp
        with_reducible rfl
      rotate_left
      · simp only [Act.put, List.setIfInBounds_toArray, List.set_cons_zero, List.set_cons_succ, i64_w, i32_w]
        rfl
      refine pure_ (i := 4) (N := (some 39)) (v := ?_) (a' := ?_) #[true, true, false, false, true, false, false, false, false, false, false] rfl rfl (by kernel_rfl) (fun _ _ _ h => h) (Or.inl ⟨by rfl, ?_⟩) ?_ ?_
      rotate_left
      · intro w'
        go_simp
        with_reducible rfl
      rotate_left
      · simp only [Act.put, List.setIfInBounds_toArray, List.set_cons_zero, List.set_cons_succ, i64_w, i32_w]
        rfl
      refine pure_ (i := 7) (N := (some 42)) (v := ?_) (a' := ?_) #[true, true, false, false, true, false, false, true, false, false, false] rfl rfl (by kernel_rfl) (fun _ _ _ h => h) (Or.inl ⟨by rfl, ?_⟩) ?_ ?_
      rotate_left
      · intro w'
        go_simp
        with_reducible rfl
      rotate_left
      · simp only [Act.put, List.setIfInBounds_toArray, List.set_cons_zero, List.set_cons_succ, i64_w, i32_w]
        rfl
      refine take_ (i := 2) (N := (some 37)) (v := ?_) (a' := ?_) #[true, true, true, false, true, false, false, true, false, false, false] rfl rfl (by kernel_rfl) (fun _ _ _ h => h) (Or.inl ⟨by rfl, ?_⟩) hHeld ?_ ?_
      rotate_left
      · rintro w' hh
        obtain ⟨g0, g1, g2, g3, g4⟩ := blk5 hh
        go_simp
        with_reducible rfl
      rotate_left
      · simp only [Act.put, List.setIfInBounds_toArray, List.set_cons_zero, List.set_cons_succ, i64_w, i32_w]
        rfl
      refine take_ (i := 5) (N := (some 40)) (v := ?_) (a' := ?_) #[true, true, true, false, true, true, false, true, false, false, false] rfl rfl (by kernel_rfl) (fun _ _ _ h => h) (Or.inl ⟨by rfl, ?_⟩) hHeld ?_ ?_
      rotate_left
      · rintro w' hh
        obtain ⟨g0, g1, g2, g3, g4⟩ := blk5 hh
        go_simp
        with_reducible rfl
      rotate_left
      · simp only [Act.put, List.setIfInBounds_toArray, List.set_cons_zero, List.set_cons_succ, i64_w, i32_w]
        rfl
      refine take_ (i := 8) (N := (some 43)) (v := ?_) (a' := ?_) #[true, true, true, false, true, true, false, true, true, false, false] rfl rfl (by kernel_rfl) (fun _ _ _ h => h) (Or.inl ⟨by rfl, ?_⟩) hHeld ?_ ?_
      rotate_left
      · rintro w' hh
        obtain ⟨g0, g1, g2, g3, g4⟩ := blk5 hh
        go_simp
        with_reducible rfl
      rotate_left
      · simp only [Act.put, List.setIfInBounds_toArray, List.set_cons_zero, List.set_cons_succ, i64_w, i32_w]
        rfl
      refine one_ (i := 3) (N := (some 38)) #[true, true, true, true, true, true, false, true, true, false, false] rfl rfl (by kernel_rfl) (by decide) (fun K hK => ?_)
      refine goes_ Try.func17 (by kernel_rfl) rfl #[.slice A5 n5 c5, .string x3] (by rfl) rfl rfl (by first | rfl | (go_simp; done) | (simp [Act.eval]; done) | (simp [Act.eval]; rfl)) ?_
      refine Calls.mono (rdText HRE.out (by simp only [List.length_append]; have := HXL.out; have := HE1.out; have := HE2.out; omega) (by omega)) ?_
      rintro e w6 ⟨A6, n6, c6, rfl, hR, hB⟩
      have HR6 := Lib.hid hR
      have HP6 := Lib.hid (HPe.out.below hB)
      clear hR hB
      refine ⟨_, rfl, ?_⟩
      refine hK.out _ _ (HP6.out.blk0) (fun hHeld => ?_)
      clear hK K
      refine norm_ (a' := ?_) ?_ ?_
      rotate_left
      · show Act.put _ (some 38) _ = _
        simp only [Act.put, List.setIfInBounds_toArray, List.set_cons_zero, List.set_cons_succ, i64_w, i32_w]
        rfl
      refine one_ (i := 6) (N := (some 41)) #[true, true, true, true, true, true, true, true, true, false, false] rfl rfl (by kernel_rfl) (by decide) (fun K hK => ?_)
      refine goes_ Try.func17 (by kernel_rfl) rfl #[.slice A6 n6 c6, .string x4] (by rfl) rfl rfl (by first | rfl | (go_simp; done) | (simp [Act.eval]; done) | (simp [Act.eval]; rfl)) ?_
      refine Calls.mono (rdText HR6.out (by simp only [List.length_append]; have := HXL.out; have := HE1.out; have := HE2.out; have := HE3.out; omega) (by omega)) ?_
      rintro e w7 ⟨A7, n7, c7, rfl, hR, hB⟩
      have HR7 := Lib.hid hR
      have HP7 := Lib.hid (HP6.out.below hB)
      clear hR hB
      refine ⟨_, rfl, ?_⟩
      refine hK.out _ _ (HP7.out.blk0) (fun hHeld => ?_)
      clear hK K
      refine norm_ (a' := ?_) ?_ ?_
      rotate_left
      · show Act.put _ (some 41) _ = _
        simp only [Act.put, List.setIfInBounds_toArray, List.set_cons_zero, List.set_cons_succ, i64_w, i32_w]
        rfl
      refine one_ (i := 9) (N := (some 44)) #[true, true, true, true, true, true, true, true, true, true, false] rfl rfl (by kernel_rfl) (by decide) (fun K hK => ?_)
      refine goes_ Try.func17 (by kernel_rfl) rfl #[.slice A7 n7 c7, .string x5] (by rfl) rfl rfl (by first | rfl | (go_simp; done) | (simp [Act.eval]; done) | (simp [Act.eval]; rfl)) ?_
      refine Calls.mono (rdText HR7.out (by simp only [List.length_append]; have := HXL.out; have := HE1.out; have := HE2.out; have := HE3.out; have := HE4.out; omega) (by omega)) ?_
      rintro e w8 ⟨A8, n8, c8, rfl, hR, hB⟩
      have HR8 := Lib.hid hR
      have HP8 := Lib.hid (HP7.out.below hB)
      clear hR hB
      refine ⟨_, rfl, ?_⟩
      refine hK.out _ _ (HP8.out.blk0) (fun hHeld => ?_)
      clear hK K
      refine norm_ (a' := ?_) ?_ ?_
      rotate_left
      · show Act.put _ (some 44) _ = _
        simp only [Act.put, List.setIfInBounds_toArray, List.set_cons_zero, List.set_cons_succ, i64_w, i32_w]
        rfl
      refine pure_ (i := 10) (N := (some 4)) (v := ?_) (a' := ?_) #[true, true, true, true, true, true, true, true, true, true, true] rfl rfl (by kernel_rfl) (fun _ _ _ h => h) (Or.inl ⟨by rfl, ?_⟩) ?_ ?_
      rotate_left
      · intro w'
        go_simp
        with_reducible rfl
      rotate_left
      · simp only [Act.put, List.setIfInBounds_toArray, List.set_cons_zero, List.set_cons_succ, i64_w, i32_w]
        rfl
      refine done_ (by kernel_rfl) ?_
      go_wp2_with fail
      refine ⟨⟨j + 1, A8, n8, c8, by simp, by omega, rfl, ?_, HP8.out.forget⟩, ?_⟩
      · rw [HNX.out]
        unfold encTook
        simp only [← List.append_assoc]
        exact HR8.out
      · simp [intOf]
        omega
end Go.Proofs.Ytidjapjidihbpaa
set_option linter.unusedVariables false
set_option linter.unusedSimpArgs false
namespace Go.Proofs.Ytidjapjidihbpaa
open Go.RowKit Go.Proofs.YtidjapjidihbpaaW.PrintWords
theorem conv_rd {W : World} {A : Option Addr} {n cap : Nat} {xs : List Int} (hb : ByOk xs) (h : Rd W A n cap xs) :
    (convert 30 9 (.slice A n cap)).run Try.prog W = .ok (.string (textOf xs)) W := by
  cases A with
  | some ad => exact conv_text W ad n cap xs hb h.1
  | none =>
    have hn : n = 0 := by
      rcases Nat.eq_zero_or_pos n with h0 | h0
      · exact h0
      · obtain ⟨ad, _, _, hA, _⟩ := C_nth h.1 0 h0
        cases hA
    have hx : xs = [] := List.eq_nil_of_length_eq_zero (by rw [← h.len]; exact hn)
    subst hn hx
    have := run_convert_bytes_nil (P := Try.prog) W 30 5 Try.underlying30 Try.underlying5 0 cap 9 Try.underlying9
    exact this
theorem textOf_inj {xs ys : List Int} (hx : ByOk xs) (hy : ByOk ys) (h : textOf xs = textOf ys) : xs = ys := by
  have := congrArg bytesOf h
  rwa [bytesOf_textOf hx, bytesOf_textOf hy] at this
theorem str_beq (a b : ByteArray) : (a.toList == b.toList) = decide (a = b) := by
  by_cases h : a = b
  · subst h; simp
  · rw [decide_eq_false h, beq_eq_false_iff_ne, Go.ByteArray.toList_eq, Go.ByteArray.toList_eq]
    exact fun e => h (ByteArray.ext (Array.toList_inj.1 e))
theorem eqBytes_any {w : World} {A : Option Addr} {n c : Nat} {xs : List Int} {B : Option Addr} {m d : Nat} {ys : List Int} (hx : ByOk xs) (hy : ByOk ys) (hA : Rd w A n c xs) (hB : Rd w B m d ys) :
    Calls Try.prog 7 #[.slice A n c, .slice B m d] w fun e w' => e = .returned (.bool (decide (xs = ys))) ∧ w = w' := by
  have h1 := conv_rd hx hA
  have h2 := conv_rd hy hB
  have h3 : ((textOf xs).toList == (textOf ys).toList) = decide (xs = ys) := by
    rw [str_beq]
    exact decide_eq_decide.2 ⟨fun h => textOf_inj hx hy h, fun h => by rw [h]⟩
  generalize decide (xs = ys) = b at *
  generalize textOf xs = tx at *
  generalize textOf ys = ty at *
  go_enter Try.func7, Try.ntmps7
  go_wp2_with fail
  go_ret
  exact ⟨by first | rfl | simp, rfl⟩
end Go.Proofs.Ytidjapjidihbpaa
