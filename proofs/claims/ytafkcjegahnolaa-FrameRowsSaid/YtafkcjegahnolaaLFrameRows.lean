/- The statement FrameRows of layer 2: every call of it tells true and leaves what was there as it was. -/
import Derived.Test.YtafkcjegahnolaaLFrameUsed
import Derived.Deep.RegionHeld3
import Derived.Deep.QuietTactic
import Derived.BigQuiet
namespace Go.Proofs.Ytafkcjegahnolaa
open Go.RowKit Go.Proofs.YtafkcjegahnolaaW.PrintWords

def catOf (l : List (List Int)) : List Int := (l.map sealOf).flatten
theorem catOf_snoc (l : List (List Int)) (x : List Int) : catOf (l ++ [x]) = catOf l ++ sealOf x := by simp [catOf]
theorem catOf_cons (x : List Int) (l : List (List Int)) : catOf (x :: l) = sealOf x ++ catOf l := by simp [catOf]
theorem catOf_len {l : List (List Int)} (h : ∀ x ∈ l, x.length ≤ 100) : (catOf l).length ≤ 106 * l.length := by
  induction l with
  | nil => simp [catOf]
  | cons x l ih =>
    rw [catOf_cons, List.length_append, sealOf_length, List.length_cons]
    have := ih (fun y hy => h y (List.mem_cons_of_mem _ hy))
    have := h x (by simp)
    omega
theorem catOf_ok {l : List (List Int)} (h : ∀ x ∈ l, BytesOk x) : BytesOk (catOf l) := by
  intro z hz
  unfold catOf at hz
  obtain ⟨s, hs, hzs⟩ := List.mem_flatten.1 hz
  obtain ⟨x, hx, rfl⟩ := List.mem_map.1 hs
  exact sealOf_ok (h x hx) z hzs
def tornB : List Int := [116, 111, 114, 110]
theorem all_cat (m : Nat) (hm : m < 10) : ∀ (l : List (List Int)) (k : Nat), (∀ x ∈ l, x.length ≤ 100) → (catOf l ++ (sealOf tornB).take m).length < k → allOf k (catOf l ++ (sealOf tornB).take m) = (l, (catOf l).length, if m = 0 then 0 else 3) := by
  intro l
  induction l with
  | nil =>
    intro k _ hk
    obtain ⟨k, rfl⟩ : ∃ q, k = q + 1 := ⟨k - 1, by omega⟩
    by_cases h0 : m = 0
    · subst h0
      simp [catOf, allOf]
    · have hlen : ((sealOf tornB).take m).length = m := by rw [List.length_take, sealOf_length]; simp [tornB]; omega
      have hne : (sealOf tornB).take m ≠ [] := fun e => by rw [e] at hlen; simp at hlen; omega
      have hc := cut_law (l := tornB) (by decide) (c := m) (by simp [tornB]; omega)
      rw [show catOf [] ++ (sealOf tornB).take m = (sealOf tornB).take m by simp [catOf], allOf, if_neg hne, if_neg (by rw [hc]; decide), hc, if_neg h0]
      rfl
  | cons x l ih =>
    intro k hl hk
    obtain ⟨k, rfl⟩ : ∃ q, k = q + 1 := ⟨k - 1, by omega⟩
    rw [catOf_cons, List.append_assoc] at hk ⊢
    have hx := hl x (by simp)
    obtain ⟨h1, h2, h3⟩ := seal_law (l := x) (r := catOf l ++ (sealOf tornB).take m) (by omega)
    have hne : sealOf x ++ (catOf l ++ (sealOf tornB).take m) ≠ [] := fun e => by have := congrArg List.length e; rw [List.length_append, sealOf_length] at this; simp at this
    have hlk := ih k (fun y hy => hl y (List.mem_cons_of_mem _ hy)) (by rw [List.length_append, sealOf_length] at hk; omega)
    rw [allOf, if_neg hne, if_pos h1, h2, h3, hlk, List.length_append, sealOf_length]
    simp only [Prod.mk.injEq, and_true, true_and]
    omega

theorem bytesEqual_same (A0 : Option Addr) (c0 : Nat) (l : List Int) (A1 : Option Addr) (c1 : Nat) (w : World) (h0 : (Kd.int .u8).C w A0 l.length l) (hc0 : l.length ≤ c0) (h1 : (Kd.int .u8).C w A1 l.length l) (hc1 : l.length ≤ c1) (hx : BytesOk l) :
    Calls Try.prog 16 #[.slice A0 l.length c0, .slice A1 l.length c1] w fun e w' => e = .returned (.bool true) ∧ ∃ m, w' = w.drewN m := by
  refine Calls.mono (bytesEqual_any A0 c0 l A1 c1 l w h0 hc0 h1 hc1 hx hx) ?_
  rintro e w' ⟨rfl, hd⟩
  obtain ⟨m, rfl⟩ := hd
  exact ⟨by simp, m, rfl⟩

theorem R_empty_gt {α : Type} {d : Kd α} {e g base : Nat} {w : World} (hg : w.heap[g]? = some (.cells #[] e (0, 0))) (hb : base ≤ g) : d.R e w base (fun _ => True) (.slice (some ⟨g, 0, none⟩) 0 0) [] :=
  ⟨fun _ _ => trivial, [], ⟨by simp, .inr ⟨g, 0, #[], rfl, hb, hg, Nat.le_refl _, by simp [maxLen], by simp, by simp⟩⟩, Reps.none _ _⟩

/-- What All tells of a row's frames with a torn one behind them. -/
theorem all_rows (A : Option Addr) (n8 c : Nat) (cs : List Int) (m : Nat) (xs : List (List Int)) (tb : List Int) (w : World) (n : Nat) (hnx : xs.length = n) (hn8 : n8 = ([] ++ cs ++ tb.take m).length) (hm : m < 10) (hcs : cs = catOf xs) (htb : tb = sealOf tornB) (hl : ∀ x ∈ xs, x.length ≤ 100) (hx : ∀ x ∈ xs, BytesOk x) (hn : xs.length ≤ 20) {b : Nat}
    (hR : (Kd.int .u8).R 5 w b (fun _ => True) (.slice A n8 c) ([] ++ cs ++ tb.take m)) :
    Calls Try.prog 18 #[.slice A n8 c] w fun e w' => ∃ A' c' er, e = .returned (.tuple #[.slice A' n c', .int .i64 (cs.length : Nat), .int .i64 er]) ∧ ((er = 0 ∧ (m : Int) = 0) ∨ (er = 3 ∧ ¬ (m : Int) = 0)) ∧ (Kd.slice 5 (Kd.int .u8)).R 22 w' w.heap.size (fun _ => True) (.slice A' n c') xs ∧ Below w.heap.size w w' := by
  subst hn8
  subst hnx
  subst htb
  rw [List.nil_append] at hR ⊢
  obtain ⟨_, hc, hC⟩ := Kd.R_reads' hR
  have hlen := catOf_len hl
  have htk : ((sealOf tornB).take m).length ≤ 10 := by rw [List.length_take]; omega
  have hz := all_cat m hm xs ((cs ++ (sealOf tornB).take m).length + 1) hl (by rw [hcs]; exact Nat.lt_succ_self _)
  rw [← hcs] at hz hlen
  refine Calls.mono (all_is A _ c _ w rfl hC hc ?_ ?_ hz) ?_
  · intro z hz'
    rcases List.mem_append.1 hz' with h | h
    · exact catOf_ok hx z (hcs ▸ h)
    · exact sealOf_ok (ok_const (by decide)) z (List.mem_of_mem_take h)
  · rw [List.length_append]; omega
  · rintro e w' ⟨A', c', rfl, hR', hB'⟩
    refine ⟨A', c', _, rfl, ?_, hR', hB'⟩
    by_cases h0 : m = 0
    · left; subst h0; exact ⟨rfl, rfl⟩
    · right; rw [if_neg h0]; exact ⟨rfl, by omega⟩

set_option maxHeartbeats 3200000 in
set_option maxRecDepth 100000 in
theorem rows_any (A : Option Addr) (n cap : Nat) (xs : List (List Int)) (cut : Int) (w : World) (hC : (Kd.slice 5 (Kd.int .u8)).C w A n xs) (hc : n ≤ cap) (ho : ∀ s ∈ xs, ∀ z ∈ s, (Lit.int .u8 z).wf = true) (hcut : (Lit.int .u8 cut).wf = true) :
    Calls Try.prog 10 #[.slice A n cap, .int .u8 cut] w fun e w' => e = .returned (.bool true) ∧ Below w.heap.size w w' := by
  have HN := Lib.hid (Kd.C_len hC)
  have HC := Lib.hid hC
  have hm1 := Kd.C_max hC
  have hx : ∀ s ∈ xs, BytesOk s := fun s hs => BytesOk.of_wf (ho s hs)
  have HX := Lib.hid hx
  have kc := fun (w : World) (C : Array Value) (n c : Nat) => Lib.run_convert_bytes_const (P := Try.prog) w 22 5 C n c Try.underlying22 Try.underlying5
  clear hC ho hx
  by_cases hbig : 20 < n
  · have hbi : (20 : Int) < n := by omega
    go_enter Try.func10, Try.ntmps10
    go_wp2_with (go_at_call 11; refine Calls.mono (awake_any _) ?_; rintro e w1 ⟨rfl, hB⟩)
    go_ret
    exact ⟨rfl, hB⟩
  · have hbi : ¬ (20 : Int) < n := by omega
    go_enter Try.func10, Try.ntmps10
    go_wp2_with fail
    go_loopw [5, 23] (fun v i wr => ∃ k : Nat, i = .int .i64 k ∧ k ≤ n ∧ (Kd.int .u8).R 5 wr w.heap.size (fun _ => True) v (catOf (xs.take k)) ∧ Hid (∀ x ∈ xs.take k, x.length ≤ 100) ∧ Below w.heap.size w wr) (fun _ i _ => n - (intOf i).toNat)
    case atStart => exact ⟨0, rfl, Nat.zero_le _, by simpa [catOf] using Kd.R_nil _ _ _ _ _, Lib.hid (by simp), Below.refl _ _⟩
    case round =>
      obtain ⟨k, rfl, hk, hR, hS, hB⟩ := hrel
      have HR := Lib.hid hR
      have HB := Lib.hid hB
      have hcl := catOf_len hS.out
      rw [List.length_take, HN.out] at hcl
      clear hR hB
      by_cases hlt : k < n
      · obtain ⟨ad, x, Ax, cx, rfl, hxk, hcell, hlx, hCx⟩ := C_nth_slice (Kd.C_below HC.out HB.out) k hlt
        have hxx := HX.out x (List.mem_of_getElem? hxk)
        have htk : xs.take (k + 1) = xs.take k ++ [x] := by rw [List.take_add_one, hxk]; rfl
        have HTK := Lib.hid htk
        have HCX := Lib.hid hCx
        have i0 : (0 : Int) ≤ (k : Int) := by omega
        have i1 : (k : Int) < (n : Int) := by omega
        have hxm := Kd.C_max hCx
        clear hxk htk hCx
        by_cases hx1 : 100 < x.length
        · have hx1i : (100 : Int) < (x.length : Int) := by omega
          go_wp2_with fail
          refine Calls.mono (seal_any Ax cx x wr HCX.out hlx hxx) ?_
          rintro e w1 ⟨A1, n1, c1, rfl, hR1, hB1⟩
          have HB1 := Lib.hid (HB.out.trans (hB1.mono HB.out.size))
          clear hR1 hB1
          go_wp2_with (go_at_call 11; refine Calls.mono (awake_any _) ?_; rintro e w2 ⟨rfl, hB2⟩)
          go_ret
          exact ⟨rfl, HB1.out.trans (hB2.mono HB1.out.size)⟩
        · have hx1i : ¬ (100 : Int) < (x.length : Int) := by omega
          go_wp2_with fail
          refine Calls.mono (seal_n Ax x.length cx x wr rfl HCX.out hlx hxx (by omega)) ?_
          rintro e w1 ⟨A1, c1, rfl, hR1, hc1, hC1, hB1⟩
          have HR' := Lib.hid (Kd.R_below HR.out hB1)
          have HC1 := Lib.hid hC1
          have HB1 := Lib.hid (HB.out.trans (hB1.mono HB.out.size))
          have hsl := sealOf_length x
          have HSL := Lib.hid hsl
          clear hR1 hB1 hC1 hsl
          go_wp2_with (at_builtin; refine Kd.R_append_rows (Kd.int .u8) (w0 := w) w.heap.size rfl (.tmp 45) (.tmp 46) 22 5 (.int .u8 0) 1 rfl Try.underlying22 info_byte rfl (by decide) (by omega) u5 (catOf (xs.take k)) (sealOf x) A1 (x.length + 6) c1 (fun _ => True) (fun _ => False) rfl rfl HR'.out HC1.out (fun _ _ h => h) (fun _ h => h.elim) (fun _ _ => trivial) HB1.out HB1.out.size (by omega) ?_; intro v4 w4 hR4 hB4 hgr hat2; clear hgr hat2)
          refine ⟨⟨k + 1, by simp, by omega, by rw [HTK.out, catOf_snoc]; exact hR4, Lib.hid (fun y hy => ?_), hB4⟩, ?_⟩
          · rw [HTK.out] at hy
            rcases List.mem_append.1 hy with hy | hy
            · exact hS.out y hy
            · rw [List.mem_singleton.1 hy]; omega
          · simp [intOf]
            omega
      · have hkn : k = n := by omega
        subst hkn
        have hall : xs.take k = xs := List.take_of_length_le (by rw [HN.out]; exact Nat.le_refl _)
        have HR2 := Lib.hid (show (Kd.int .u8).R 5 wr w.heap.size (fun _ => True) u5 (catOf xs) by have := HR.out; rwa [hall] at this)
        have HS2 := Lib.hid (show ∀ x ∈ xs, x.length ≤ 100 by have := hS.out; rwa [hall] at this)
        rw [hall] at hcl
        clear hall
        go_wp2_with fail
        refine Calls.mono (seal_n (some ⟨wr.heap.size, 0, none⟩) 4 4 tornB _ rfl (C_mark wr _ _ _ tornB rfl (by decide)) (by decide) (ok_const (by decide)) (by decide)) ?_
        rintro e w1 ⟨A1, c1, rfl, hR1, hc1, hC1, hB1⟩
        have hB1 : Below wr.heap.size wr w1 := ((Below.refl wr.heap.size wr).alloc (Nat.le_refl _) _).trans (hB1.mono (by simp))
        have hR3 := Kd.R_below HR2.out hB1
        have HC1 := Lib.hid hC1
        have HB1 := Lib.hid (HB.out.trans (hB1.mono HB.out.size))
        clear hR1 hC1 hB1
        obtain ⟨A5, c5, rfl⟩ := Kd.R_slice hR3
        obtain ⟨_, hc5, hC5⟩ := Kd.R_reads' hR3
        obtain ⟨m, hm10, hmt⟩ : ∃ m : Nat, m < 10 ∧ (wrap64 cut).tmod 10 = (m : Int) := by
          have h1 : 0 ≤ cut ∧ cut < 256 := by have := bounds_u8 hcut; omega
          have h2 : wrap64 cut = cut := IntWalk.wrap64_in _ (by omega)
          refine ⟨(cut % 10).toNat, by omega, ?_⟩
          rw [h2, Int.tmod_eq_emod_of_nonneg h1.1]
          omega
        obtain ⟨i0, hi, hz0, hz1, hz2⟩ := info_parts info_byte
        obtain ⟨hcut2, hCt⟩ := take_row (P := Try.prog) 22 5 Try.underlying22 hi m (by omega) hc1 HC1.out
        obtain ⟨cs, hcs⟩ : ∃ cs, cs = catOf xs := ⟨_, rfl⟩
        rw [← hcs] at hC5 hc5 hcl hR3 ⊢
        have hm0 : (0 : Int) ≤ (m : Int) := by omega
        have hmx : (m : Int) ≤ 10 := by omega
        have HCS := Lib.hid hcs
        obtain ⟨tb, htb⟩ : ∃ tb, tb = sealOf tornB := ⟨_, rfl⟩
        rw [← htb] at hCt
        have HTB := Lib.hid htb
        have HCT := Lib.hid hCt
        clear hCt
        have HC5 := Lib.hid hC5
        have hcsl : cs.length ≤ 3000 := by omega
        clear hcs htb hC5 hcl hcut hR3
        go_wp2_with fail
        go_region_held3 (fun _ => True) (exact trivial) (first | (refine Kd.R_append_rows_step (Kd.int .u8) (w0 := w1) w1.heap.size (by rfl) (.tmp 62) (.tmp 63) 22 5 (.int .u8 0) 1 rfl Try.underlying22 info_byte rfl (by decide) (by omega) (.slice (some ⟨w1.heap.size, 0, none⟩) 0 0) [] cs A5 cs.length c5 (fun _ => True) (fun _ => False) rfl rfl (by exact R_empty_gt (heap_alloc_new _ _) (Nat.le_refl _)) (by exact Kd.C_drew (Kd.C_alloc HC5.out _)) (fun _ _ h => h) (fun _ h => h.elim) (fun _ _ => trivial) (by exact ((Below.refl _ _).alloc (Nat.le_refl _) _).drew) (by simp) (by simp; omega) ?_; intro v7 w7 hR7 hB7 hg7 hat7) | (refine Kd.R_append_rows_step (Kd.int .u8) (w0 := w1) w1.heap.size (by rfl) (.tmp 64) (.tmp 67) 22 5 (.int .u8 0) 1 rfl Try.underlying22 info_byte rfl (by decide) (by omega) v7 ([] ++ cs) (tb.take m) A1 m c1 (fun _ => True) (fun _ => False) rfl rfl hR7 (by exact Kd.C_below HCT.out hB7) (fun _ _ h => h) (fun _ h => h.elim) (fun _ _ => trivial) hB7 hB7.size (by simp; omega) ?_; intro v8 w8 hR8 hB8 hg8 hat8; obtain ⟨A8, c8, hv8⟩ := Kd.R_slice hR8; obtain ⟨n8, hn8⟩ : ∃ n8, n8 = ([] ++ cs ++ tb.take m).length := ⟨_, rfl⟩; rw [← hn8] at hv8; subst hv8; have HR8 := Lib.hid hR8; have HN8 := Lib.hid hn8; clear hR8 hn8) | (go_at_call 18; refine Calls.mono (all_rows A8 n8 c8 cs m xs tb w8 k HN.out HN8.out hm10 HCS.out HTB.out HS2.out HX.out (by rw [HN.out]; omega) HR8.out) ?_; rintro e w9 ⟨A9, c9, er, rfl, her, hR9, hB9⟩; have HER := Lib.hid her; have HC9 := Lib.hid (show (Kd.slice 5 (Kd.int .u8)).C w9 A9 k xs by have := (Kd.R_reads' hR9).2.2; rwa [HN.out] at this); have HB9 := Lib.hid (HB1.out.trans ((hB8.trans (hB9.mono hB8.size)).mono HB1.out.size)); clear her hR9 hB9 hB8 hg8 hat8))
        all_goals
          clear hcut2 hm0 hmx
          rcases HER.out with ⟨rfl, hmz⟩ | ⟨rfl, hmz⟩
        all_goals
          go_wp2_with fail
          go_loopw [93] (fun i wr => ∃ j : Nat, i = .int .i64 j ∧ j ≤ k ∧ Below w.heap.size w wr ∧ Below w9.heap.size w9 wr) (fun i _ => k - (intOf i).toNat)
          case atStart => exact ⟨0, rfl, Nat.zero_le _, HB9.out, Below.refl _ _⟩
          case round =>
            obtain ⟨j, rfl, hj, hBa, hBb⟩ := hrel
            have HBa := Lib.hid hBa
            have HBb := Lib.hid hBb
            clear hBa hBb
            by_cases hlt : j < k
            · obtain ⟨ad, x, Ax, cx, rfl, hxk, hcell, hlx, hCx⟩ := C_nth_slice (Kd.C_below HC.out HBa.out) j hlt
              obtain ⟨ad9, y, Ay, cy, rfl, hyk, hcell9, hly, hCy⟩ := C_nth_slice (Kd.C_below HC9.out HBb.out) j hlt
              have hxy : y = x := Option.some.inj (hyk.symm.trans hxk)
              have hxx := HX.out x (List.mem_of_getElem? hxk)
              subst hxy
              have HCX := Lib.hid hCx
              have HCY := Lib.hid hCy
              have i0 : (0 : Int) ≤ (j : Int) := by omega
              have i1 : (j : Int) < (k : Int) := by omega
              clear hxk hyk hCx hCy
              go_wp2_with fail
              go_quiet ((go_at_call 16; refine Calls.quiet_of (bytesEqual_same Ay cy y Ax cx _ (Kd.C_below HCY.out (Drawn0.below ⟨⟨_, rfl⟩⟩)) hly (Kd.C_below HCX.out (Drawn0.below ⟨⟨_, rfl⟩⟩)) hlx hxx)))
              go_wp2
              go_roundw
              case rel => exact ⟨j + 1, by go_num, by omega, HBa.out.trans (Drawn0.below ⟨⟨_, rfl⟩⟩ |>.mono HBa.out.size), HBb.out.trans (Drawn0.below ⟨⟨_, rfl⟩⟩ |>.mono HBb.out.size)⟩
              case measure => simp [intOf]; omega
            · have hjk : j = k := by omega
              subst hjk
              go_wp2_with (go_at_call 11; refine Calls.mono (awake_any _) ?_; rintro e w1 ⟨rfl, hB⟩)
              go_ret
              exact ⟨rfl, HBa.out.trans (hB.mono HBa.out.size)⟩
end Go.Proofs.Ytafkcjegahnolaa
