/- timer.Timer.All: slices.SortFunc at items, by the shelf's contract. -/
import Derived.Test.YtihmblkfbcnllaaTmT2
import Derived.Test.YtihmblkfbcnllaaShelf
import Derived.Shelf.SlSortCmp.WholeK
import Derived.Shelf.SlSortCmp.NoneTotal
namespace Go.Proofs.Ytihmblkfbcnllaa
open Go.RowKit Go.Proofs.YtihmblkfbcnllaaW.PrintWords
open Go.Sort (grow putRow putCells ahead mapBlock onCells Holds SWO PermIn SortedIn heap_grow_old HoldsK flatK putRowK size_flatK get_flatK)

def encIt (x : It) : List Value := [.int .i64 x.1, .int .i64 x.2]
theorem KIt_M (w : World) (base : Nat) (ok : Nat → Prop) (x : It) : KIt.M w base ok x (encIt x) := ⟨[_], [_], rfl, rfl, rfl⟩
theorem holds_it {e : Nat} {w : World} {base : Nat} {ok : Nat → Prop} {g n cap : Nat} {xs : List It} (h : KIt.R e w base ok (.slice (some ⟨g, 0, none⟩) n cap) xs) : HoldsK encIt 2 w g 0 xs.toArray := by
  have hn := (Kd.R_reads' h).1
  intro t ht
  rw [size_flatK] at ht
  have hs : xs.toArray.size = xs.length := by simp
  obtain ⟨c, hcl, hM, hcc, hcf⟩ := Kd.R_elem h (0, 0) ((t / 2 : Nat) : Int) (by omega) (by omega)
  have hc := KIt_cells hM
  subst hc
  have hsz : KIt.sz = 2 := rfl
  rw [hsz] at hcc hcf
  simp only [Int.toNat_natCast] at hcc hcf
  have ht2 : t / 2 * 2 + t % 2 = t := by omega
  have htl : t / 2 < xs.length := by omega
  rw [get_flatK encIt 2 _ t ht, Nat.zero_add]
  have he : xs.toArray[t / 2]! = xs.getD (t / 2) (0, 0) := by simp [List.getD, htl]
  have hf := hcf (t % 2)
  rw [ht2] at hf
  refine ⟨?_, hf⟩
  rw [he]
  rcases Nat.mod_two_eq_zero_or_one t with h0 | h0
  · have := hcc 0 _ rfl
    rw [h0] at ht2
    rw [ht2] at this
    rw [h0, this]
    rfl
  · have := hcc 1 _ rfl
    rw [h0] at ht2
    rw [ht2] at this
    rw [h0, this]
    rfl
theorem sorted_heap {w : World} {g m : Nat} {os : Array Obj} {cur : Array Value} {e : TypeId} {fr : Nat × Nat} (d : Array It) (hb : w.heap[g]? = some (.cells cur e fr)) :
    (sortWorldK encIt 2 w g 0 m d os).heap[g]? = some (.cells (putCells id 0 (flatK encIt 2 d) cur) e fr) := by
  have hg : g < w.heap.size := (Array.getElem?_eq_some_iff.1 hb).1
  unfold sortWorldK
  rw [heap_grow_old _ _ (by simpa [putRowK, putRow, mapBlock, ahead] using hg)]
  simp [putRowK, putRow, mapBlock, Array.getElem?_modify, hb, onCells]
theorem sorted_below {w : World} {g m B : Nat} {os : Array Obj} (d : Array It) (hg : B ≤ g) (hB : B ≤ w.heap.size) : Below B w (sortWorldK encIt 2 w g 0 m d os) := by
  refine ⟨rfl, rfl, rfl, by simp [sortWorldK, grow, putRowK, putRow, mapBlock], fun k hk => ?_⟩
  unfold sortWorldK
  rw [heap_grow_old _ _ (by simp [putRowK, putRow, mapBlock]; omega)]
  have : g ≠ k := by omega
  simp [putRowK, putRow, mapBlock, Array.getElem?_modify, this]
theorem flat_take (d : Array It) (cur : Array Value) (h : d.size * 2 ≤ cur.size) (j : Nat) (x : It) (hj : d.toList[j]? = some x) :
    (((putCells id 0 (flatK encIt 2 d) cur).toList.take (d.size * 2)).drop (j * 2)).take 2 = encIt x := by
  have hjl : j < d.size := by simpa using (List.getElem?_eq_some_iff.1 hj).1
  have hx : d[j]! = x := by
    rw [getElem!_pos d j hjl]
    have := (List.getElem?_eq_some_iff.1 hj).2
    simpa using this
  apply List.ext_getElem?
  intro i
  rw [List.getElem?_take]
  by_cases hi : i < 2
  · rw [if_pos hi, List.getElem?_drop, List.getElem?_take_of_lt (by omega), Array.getElem?_toList]
    have hlt : j * 2 + i < (flatK encIt 2 d).size := by rw [size_flatK]; omega
    have hlc : j * 2 + i < cur.size := by rw [size_flatK] at hlt; omega
    have e1 : (putCells id 0 (flatK encIt 2 d) cur)[j * 2 + i]? = some ((flatK encIt 2 d)[j * 2 + i]!) := by
      simp only [putCells, Array.getElem?_mapIdx, Nat.zero_le, Nat.zero_add, true_and, hlt, if_true, Nat.sub_zero, id]
      rw [Array.getElem?_eq_getElem hlc]
      rfl
    rw [e1, get_flatK encIt 2 d _ (by rw [size_flatK] at hlt; exact hlt), show (j * 2 + i) / 2 = j by omega, show (j * 2 + i) % 2 = i by omega, hx]
    match i, hi with
    | 0, _ => rfl
    | 1, _ => rfl
  · rw [if_neg hi, List.getElem?_eq_none (by simp [encIt]; omega)]
theorem R_sorted {e : Nat} {w : World} {base : Nat} {ok : Nat → Prop} {g n cap m : Nat} {os : Array Obj} {xs ys : List It} (h : KIt.R e w base ok (.slice (some ⟨g, 0, none⟩) n cap) xs) (hp : 0 < n) (hl : ys.length = xs.length) :
    KIt.R e (sortWorldK encIt 2 w g 0 m ys.toArray os) base ok (.slice (some ⟨g, 0, none⟩) n cap) ys := by
  obtain ⟨h0, inner, ho, hr⟩ := h
  have hsz : KIt.sz = 2 := rfl
  rw [hsz] at ho hr
  rcases ho.2 with ⟨hv, _⟩ | ⟨g', cap', cur, hv, hb, hh, h1, h2, h3, h4⟩
  · cases hv
  · injection hv with ha hx hc
    injection ha with ha
    injection ha with ha
    subst ha hc
    have hnn : n = xs.length := hx
    subst hnn
    have hlt : ys.toArray.size * 2 ≤ cur.size := by simp; omega
    refine ⟨h0, _, ⟨?_, .inr ⟨g, cap, _, by rw [hl], hb, sorted_heap _ hh, by omega, h2, by rw [hsz]; simpa [putCells] using h3, rfl⟩⟩, ?_, fun j x hj => ?_⟩
    · rw [hsz, List.length_take]
      simp [putCells]
      omega
    · rw [hsz, List.length_take]
      simp [putCells]
      omega
    · rw [hsz]
      have := flat_take ys.toArray cur hlt j x (by simpa using hj)
      rw [show ys.length = ys.toArray.size by simp, this]
      exact KIt_M _ _ _ _
theorem ltOf_ord (x y : It) : ltOf ordI x y = decide (tLt x y) := by
  unfold ltOf
  exact decide_eq_decide.2 (ordI_lt x y)
theorem ord_swo : SWO (ltOf ordI) where
  irrefl x := by rw [ltOf_ord]; exact decide_eq_false (tLt_irrefl x)
  trans x y z h1 h2 := by
    rw [ltOf_ord] at *
    exact decide_eq_true (tLt_trans (of_decide_eq_true h1) (of_decide_eq_true h2))
  ntrans x y z h1 h2 := by
    rw [ltOf_ord] at *
    exact decide_eq_false (fun h => tLe_trans (of_decide_eq_false h2) (of_decide_eq_false h1) h)

theorem sort_it (n cap : Nat) (A : Option Addr) (l s : List It) (w : World) (b : Nat) (hR : KIt.R 34 w b (fun _ => True) (.slice A n cap) l) (hp : l.Perm s) (hs : s.Pairwise tLt) (hbw : b ≤ w.heap.size) (hl : n ≤ 1000000) :
    Calls Try.prog 29 #[.slice A n cap, .func (.func 30) #[] #[]] w fun e w' => e = .returned (.tuple #[]) ∧ KIt.R 34 w' b (fun _ => True) (.slice A n cap) s ∧ Below b w w' := by
  have hn : n = l.length := (Kd.R_reads' hR).1
  rcases Nat.eq_zero_or_pos n with h0 | h0
  · subst h0
    have hl0 : l = [] := List.eq_nil_of_length_eq_zero hn.symm
    subst hl0
    have hs0 : s = [] := List.nil_perm.1 hp
    subst hs0
    have hcon := AnyF.slices_SortFunc_none Try.sortIt A cap (.func (.func 30) #[] #[]) w
    refine Calls.mono hcon ?_
    rintro e w' ⟨rfl, rfl⟩
    exact ⟨rfl, hR, Below.refl _ _⟩
  · obtain ⟨g, cap', hv, hbg, hgl, cells, hg⟩ := Kd.R_form hR (by omega)
    injection hv with hA hx hc
    subst hA hc
    have eg : ∀ args w, (callFunc 30 args).run Try.prog w = .ok (.enter 30 args) w := enters_of Try.func30 (by kernel_rfl) rfl
    have hcmp : CmpLays Try.prog 30 #[] encIt 2 ordI g 0 l.toArray.size w := by
      intro m os dk _ x y
      refine Calls.mono (order_any x y _) ?_
      rintro e w' ⟨rfl, q, os', hw⟩
      exact ⟨rfl, q, os', hw⟩
    have hcon := AnyQ.slices_SortFunc Try.sortIt 2 Try.isAgg34 Try.sizeOf34 encIt (fun _ => rfl) (fun x v hv => by simp [encIt] at hv; rcases hv with rfl | rfl <;> rfl) ordI ord_swo 30 #[] g 0 cap l.toArray w eg hcmp (holds_it hR) hgl (by simp; omega)
    rw [show l.toArray.size = n by simp; omega] at hcon
    refine Calls.mono hcon ?_
    rintro e w' ⟨rfl, d', m, os, ⟨hsz, _, hperm⟩, hsort, rfl⟩
    have hdl : d'.size = n := by rw [hsz]; simp; omega
    have hp2 : d'.toList.Perm l := by
      have h1 : d'.extract 0 n = d' := by rw [← hdl]; simp
      have h2 : l.toArray.extract 0 n = l.toArray := by rw [hn]; simp
      rw [h1, h2] at hperm
      exact hperm
    have hs2 : d'.toList = s := by
      refine (hp2.trans hp).eq_of_pairwise (le := fun a b => ¬ tLt b a) (fun a b _ _ h1 h2 => tLt_total h2 h1) ?_ (hs.imp (fun h => tLe_of_lt h))
      rw [List.pairwise_iff_getElem]
      intro i j hi hj hij
      have hi' : i < d'.size := by simpa using hi
      have hj' : j < d'.size := by simpa using hj
      have := hsort i j (Nat.zero_le _) hij (by omega)
      rw [getElem!_pos d' i hi', getElem!_pos d' j hj', ltOf_ord] at this
      have := of_decide_eq_false this
      simpa using this
    have hd' : d' = s.toArray := by rw [← hs2]
    subst hd'
    exact ⟨rfl, R_sorted hR h0 (hp.length_eq.symm), sorted_below _ hbg hbw⟩

set_option maxHeartbeats 400000 in
theorem timerAll_any (w : World) (ok : Nat → Prop) (tb : Nat) (s : List It) (h : TmAt w ok tb s) (hs : s.length ≤ 1000000) :
    Calls Try.prog 20 #[.pointer (some ⟨tb, 0, none⟩)] w fun e w' => ∃ A c, e = .returned (.slice A s.length c) ∧ KIt.R 34 w' w.heap.size (fun _ => True) (.slice A s.length c) s ∧ Below w.heap.size w w' := by
  obtain ⟨v, mb, l, ps, hT, hO⟩ := h
  have hll : l.length = s.length := hO.perm.length_eq
  obtain ⟨A0, c0, rfl⟩ := Kd.R_slice hT.row
  obtain ⟨_, hc0, hC0⟩ := Kd.R_reads' hT.row
  obtain ⟨t0, _, htl⟩ := hT.tcells
  rw [hll] at t0 hc0 hC0
  have HC0 := Lib.hid hC0
  have HP := Lib.hid hO.perm
  have HS := Lib.hid hO.row
  have HLL := Lib.hid hll
  clear hT hO hC0
  go_enter Try.func20, Try.ntmps20
  go_wp2_with fail
  refine Calls.mono (clone_it A0 s.length c0 l w HLL.out HC0.out hc0 (by omega)) ?_
  rintro e w1 ⟨A1, c1, rfl, hR1, hB1⟩
  have HR1 := Lib.hid hR1
  have HB1 := Lib.hid hB1
  clear hR1 hB1
  go_wp2_with fail
  refine Calls.mono (sort_it s.length c1 A1 l s w1 w.heap.size HR1.out HP.out HS.out HB1.out.size hs) ?_
  rintro e w2 ⟨rfl, hR2, hB2⟩
  have HR2 := Lib.hid hR2
  have HB2 := Lib.hid (HB1.out.trans hB2)
  clear hR2 hB2
  go_wp2_with fail
  go_ret
  exact ⟨A1, c1, rfl, HR2.out, HB2.out⟩
end Go.Proofs.Ytihmblkfbcnllaa
