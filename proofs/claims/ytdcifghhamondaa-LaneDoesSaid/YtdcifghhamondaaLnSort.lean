/- lane.Lanes: sorted. -/
import Derived.Test.YtdcifghhamondaaLnMem
import Derived.Test.YtdcifghhamondaaCmpInt
import Derived.Test.YtdcifghhamondaaShelfSortI
import Derived.Sort.OwnSortedInts
import Derived.Deep.QuietTactic
import Derived.BigQuiet
namespace Go.Proofs.Ytdcifghhamondaa
open Go.RowKit Go.Proofs.YtdcifghhamondaaW.PrintWords
open Go.Sort (grow putRow putCells ahead mapBlock Holds SWO PermIn SortedIn cell?_grow cell?_putRow_other size_putRow grow_empty heap_grow_old)

abbrev Wid := {x : Int // (Lit.int .i64 x).wf = true}
instance : Inhabited Wid := ⟨⟨0, rfl⟩⟩
def encW (x : Wid) : Value := .int .i64 x.1
def placeOf (s : List En) (id : Int) : ByteArray × Int := (mget s id).getD (ByteArray.empty, 0)
def turnOf (s : List En) (id : Int) : Int := (placeOf s id).2
def ordT (s : List En) (x y : Wid) : Int := cmpI (turnOf s x.1) (turnOf s y.1)
theorem turnOf_mem {s : List En} (hn : (s.map (·.1)).Nodup) {p : En} (hp : p ∈ s) : turnOf s p.1 = p.2.2 := by unfold turnOf placeOf; rw [mget_mem hn hp]; rfl

theorem MapAt.lookT {w : World} {ma : Nat} {s : List En} (h : MapAt KI encP w ma s) {id : Int} (hw : (Lit.int .i64 id).wf = true) : (Instr.lookup 51 (.map (some ma)) (.int .i64 id) false).run Try.prog w = .ok (.agg #[.string (placeOf s id).1, .int .i64 (turnOf s id)]) w := by
  have hlk := h.look1 under_at (zero_place w) (a := id) hw
  unfold turnOf placeOf
  cases hm : mget s id with
  | none => rw [hm] at hlk; exact hlk
  | some v => rw [hm] at hlk; exact hlk

set_option maxHeartbeats 800000 in
theorem sorted_cl (x y : Wid) (W : World) (lb ma box : Nat) (s : List En) (hb : W.cell? ⟨box, 0, none⟩ = some (.pointer (some ⟨lb, 0, none⟩))) (hl : W.cell? ⟨lb, 1, none⟩ = some (.map (some ma))) (hM : MapAt KI encP W ma s) :
    Calls Try.prog 34 #[encW x, encW y, .pointer (some ⟨box, 0, none⟩)] W fun e w' => e = .returned (.int .i64 (ordT s x y)) ∧ ∃ q, w' = W.drewN q := by
  obtain ⟨x, hx⟩ := x
  obtain ⟨y, hy⟩ := y
  have k1 : ∀ n, (Instr.lookup 51 (.map (some ma)) (.int .i64 x) false).run Try.prog (W.drewN n) = .ok (.agg #[.string (placeOf s x).1, .int .i64 (turnOf s x)]) (W.drewN n) := fun n => MapAt.lookT (show MapAt KI encP (W.drewN n) ma s from hM) hx
  have k2 : ∀ n, (Instr.lookup 51 (.map (some ma)) (.int .i64 y) false).run Try.prog (W.drewN n) = .ok (.agg #[.string (placeOf s y).1, .int .i64 (turnOf s y)]) (W.drewN n) := fun n => MapAt.lookT (show MapAt KI encP (W.drewN n) ma s from hM) hy
  clear hM
  show Calls Try.prog 34 #[.int .i64 x, .int .i64 y, .pointer (some ⟨box, 0, none⟩)] W fun e w' => e = .returned (.int .i64 (cmpI (turnOf s x) (turnOf s y))) ∧ ∃ q, w' = W.drewN q
  generalize turnOf s x = tx at *
  generalize turnOf s y = ty at *
  generalize (placeOf s x).1 = gx at *
  generalize (placeOf s y).1 = gy at *
  have f1 : ∀ w : World, (Instr.field 56 (.agg #[.string gx, .int .i64 tx]) 1).run Try.prog w = .ok (.int .i64 tx) w := fun w => by kernel_rfl
  have f2 : ∀ w : World, (Instr.field 56 (.agg #[.string gy, .int .i64 ty]) 1).run Try.prog w = .ok (.int .i64 ty) w := fun w => by kernel_rfl
  go_enter Try.func34, Try.ntmps34
  go_wp2_with fail
  go_quiet ((go_at_call 35; refine Calls.quiet_of_same ((cmpInt_any tx ty _).mono fun e w' h => ⟨h.1, h.2.symm⟩)))
  go_wp2_with fail
  go_ret
  exact ⟨rfl, _, rfl⟩

theorem sw_heap {α : Type} [Inhabited α] (enc : α → Value) (w : World) (blk off m : Nat) (dk : Array α) (os : Array Obj) {k : Nat} (hne : k ≠ blk) (hk : k < w.heap.size) : (sortWorld enc w blk off m dk os).heap[k]? = w.heap[k]? := by
  unfold sortWorld
  rw [heap_grow_old _ _ (by simp [putRow, mapBlock]; omega)]
  have : blk ≠ k := fun e => hne e.symm
  simp [putRow, mapBlock, Array.getElem?_modify, this]
theorem wids {l : List Int} (h : ∀ x ∈ l, (Lit.int .i64 x).wf = true) : ∃ lw : List Wid, lw.map (·.1) = l := by
  induction l with
  | nil => exact ⟨[], rfl⟩
  | cons x l ih =>
    obtain ⟨lw, e⟩ := ih (fun y hy => h y (List.mem_cons_of_mem _ hy))
    exact ⟨⟨x, h x (List.mem_cons_self ..)⟩ :: lw, by rw [List.map_cons, e]⟩
theorem getBang_map (d : Array Wid) (j : Nat) (h : j < d.size) : (d.map (·.1))[j]! = (d[j]!).1 := by
  rw [getElem!_pos (d.map (·.1)) j (by simpa using h), getElem!_pos d j h, Array.getElem_map]
theorem putCells_wid (off : Nat) (d : Array Wid) (c : Array Value) : putCells encW off d c = putCells (Value.int .i64) off (d.map (·.1)) c := by
  unfold putCells
  congr 1
  funext k x
  rw [Array.size_map]
  by_cases h : off ≤ k ∧ k < off + d.size
  · rw [if_pos h, if_pos h, getBang_map d _ (by omega)]
    rfl
  · rw [if_neg h, if_neg h]
theorem sortWorld_wid (w : World) (blk off m : Nat) (d : Array Wid) (os : Array Obj) : sortWorld encW w blk off m d os = sortWorld (Value.int .i64) w blk off m (d.map (·.1)) os := by
  unfold sortWorld putRow
  rw [show putCells encW off d = putCells (Value.int .i64) off (d.map (·.1)) from funext (putCells_wid off d)]
theorem holds_wid {w : World} {blk off : Nat} {d : Array Wid} (h : Holds (Value.int .i64) w blk off (d.map (·.1))) : Holds encW w blk off d := by
  intro j hj
  have := h j (by simpa using hj)
  rw [getBang_map d j hj] at this
  exact this
theorem ltOf_ord (s : List En) (x y : Wid) : ltOf (ordT s) x y = decide (turnOf s x.1 < turnOf s y.1) := by
  unfold ltOf ordT
  exact decide_eq_decide.2 (cmpI_lt _ _)
theorem ord_swo (s : List En) : SWO (ltOf (ordT s)) where
  irrefl x := by rw [ltOf_ord]; simp
  trans x y z h1 h2 := by rw [ltOf_ord] at *; simp at *; omega
  ntrans x y z h1 h2 := by rw [ltOf_ord] at *; simp at *; omega
theorem R_sortedI {w : World} {b : Nat} {ok : Nat → Prop} {g n cap m : Nat} {os : Array Obj} {xs ys : List Int} (hR : (Kd.int .i64).R 3 w b ok (.slice (some ⟨g, 0, none⟩) n cap) xs) (hl : ys.length = xs.length) :
    (Kd.int .i64).R 3 (sortWorld (Value.int .i64) w g 0 m ys.toArray os) b ok (.slice (some ⟨g, 0, none⟩) n cap) ys ∧ w.grownBy (sortWorld (Value.int .i64) w g 0 m ys.toArray os) (some g) := by
  obtain ⟨hn, _, _⟩ := Kd.R_reads' hR
  subst hn
  have ho := Kd.own_of_R hR
  have hgb := Go.grownBy_sortedI (w := w) (g := g) (n := m) (os := os) ys.toArray
  refine ⟨?_, hgb⟩
  rcases ho.2 with ⟨hv, _⟩ | ⟨g', cap', cur, hv, hb, hh, h1, h2, h3, h4⟩
  · cases hv
  injection hv with ha _ hc'
  injection ha with ha
  injection ha with ha
  subst ha hc'
  rw [Nat.mul_one] at h3
  refine Kd.R_of_own ⟨by rw [encs_length, Nat.mul_one], .inr ⟨g, cap, _, by rw [hl], hb, Go.heap_sortedI _ hh, by omega, h2, by simpa [putCells] using h3, ?_⟩⟩ hR.1
  rw [Nat.mul_one]
  exact Go.take_putCellsI cur ys (by omega)

set_option maxHeartbeats 800000 in
theorem laneSorted_any (w : World) (ok okR : Nat → Prop) (lb T : Nat) (s s2 : List En) (h : LnAt w ok lb s T) (b : Nat) (A : Option Addr) (n cap : Nat) (l : List Int) (hR : (Kd.int .i64).R 3 w b okR (.slice A n cap) l) (hd : ∀ k, okR k → ¬ ok k) (hp : l.Perm (s2.map (·.1))) (hsub : s2.Sublist s) (hn : n ≤ 1000000) :
    Calls Try.prog 27 #[.pointer (some ⟨lb, 0, none⟩), .slice A n cap] w fun e w' => e = .returned (.slice A n cap) ∧ (Kd.int .i64).R 3 w' b okR (.slice A n cap) (s2.map (·.1)) ∧ LnAt w' ok lb s T ∧ Keep okR w w' := by
  obtain ⟨ma, mg, turn, gs, hV, hO, hT⟩ := h
  obtain ⟨hnl, _, _⟩ := Kd.R_reads' hR
  have hlt := hV.lt
  obtain ⟨t0, t1, t2, _⟩ := hV.cells
  have hwf : ∀ x ∈ l, (Lit.int .i64 x).wf = true := fun x hx => by
    obtain ⟨p, hp2, rfl⟩ := List.mem_map.1 (hp.mem_iff.1 hx)
    exact hV.at_.oks p (hsub.mem hp2)
  have hB1 : Below w.heap.size w (w.alloc (.cells #[.pointer (some ⟨lb, 0, none⟩)] 24)) := below_alloc (Below.refl _ _) _
  have hcon : Calls Try.prog 33 #[.slice A n cap, .func (.func 34) #[] #[.pointer (some ⟨w.heap.size, 0, none⟩)]] (w.alloc (.cells #[.pointer (some ⟨lb, 0, none⟩)] 24)) fun e w' => e = .returned (.tuple #[]) ∧ (Kd.int .i64).R 3 w' b okR (.slice A n cap) (s2.map (·.1)) ∧ Keep okR w w' := by
    have hb1 := heap_alloc_new w (.cells #[.pointer (some ⟨lb, 0, none⟩)] 24)
    have hR1 := Kd.R_below hR hB1
    have hV1 := hV.move (fun k _ hk => hB1.block k hk)
    have hz1 : w.heap.size < (w.alloc (.cells #[.pointer (some ⟨lb, 0, none⟩)] 24)).heap.size := by simp
    generalize w.alloc (.cells #[.pointer (some ⟨lb, 0, none⟩)] 24) = w1 at *
    rcases Nat.eq_zero_or_pos n with h0 | h0
    · subst h0
      have hl0 : l = [] := List.eq_nil_of_length_eq_zero hnl.symm
      subst hl0
      have hs0 : s2.map (·.1) = [] := List.nil_perm.1 hp
      rw [hs0]
      have hc := AnyF.slices_SortFunc_none { Try.sortInt with } A cap (.func (.func 34) #[] #[.pointer (some ⟨w.heap.size, 0, none⟩)]) w1
      refine Calls.mono hc ?_
      rintro e w' ⟨rfl, rfl⟩
      exact ⟨rfl, hR1, Keep.of_below hB1 _⟩
    · obtain ⟨g, cap', hv, hbg, hgl, cells, hg⟩ := Kd.R_form hR (by omega)
      injection hv with hA hx hc
      subst hA hc
      have hokg := hR.1 g rfl
      have hng := hd g hokg
      obtain ⟨lw, hlw⟩ := wids hwf
      subst hlw
      have eg : ∀ args w, (callFunc 34 args).run Try.prog w = .ok (.enter 34 args) w := enters_of Try.func34 (by kernel_rfl) rfl
      have hne : ∀ k, ok k → k ≠ g := fun k hk e => hng (e ▸ hk)
      have hcmp : CmpLays1 Try.prog 34 #[.pointer (some ⟨w.heap.size, 0, none⟩)] encW (ordT s) g 0 lw.toArray.size w1 := by
        intro m os dk _ x y
        have hk : ∀ k, k ≠ g → k < w1.heap.size → (sortWorld encW w1 g 0 m dk os).heap[k]? = w1.heap[k]? := fun k h1 h2 => sw_heap _ _ _ _ _ _ _ h1 h2
        have hhb := (hk w.heap.size (by omega) hz1).trans hb1
        have hhl := (hk lb (hne lb hV.oklb) (by omega)).trans hV1.hd
        refine Calls.mono (sorted_cl x y _ lb ma w.heap.size s ?_ ?_ (hV1.at_.move (hk ma (hne ma hV.okma) (by omega)))) ?_
        · have := blk_cell hhb 0
          simpa using this
        · have := blk_cell hhl 1
          simpa using this
        · rintro e w' ⟨rfl, q, rfl⟩
          exact ⟨rfl, q, #[], by rw [grow_empty]⟩
      have ho := Kd.own_of_R hR1
      rcases ho.2 with ⟨hv, _⟩ | ⟨g', cap', cur, hv, hb, hh, h1, h2, h3, h4⟩
      · cases hv
      injection hv with ha _ hc'
      injection ha with ha
      injection ha with ha
      subst ha hc'
      rw [Nat.mul_one] at h3 h4
      have hH : Holds encW w1 g 0 lw.toArray := holds_wid (by
        have := Go.holds_of_blockI (ss := lw.map (·.1)) hh h4
        simpa using this)
      have hln : lw.length = n := by rw [hnl, List.length_map]
      have hc2 := Any.slices_SortFunc Try.sortInt encW (fun _ => rfl) (ordT s) (ord_swo s) 34 #[.pointer (some ⟨w.heap.size, 0, none⟩)] g 0 cap lw.toArray w1 eg hcmp hH (by omega) (by simp; omega)
      rw [show lw.toArray.size = n by simpa using hln] at hc2
      refine Calls.mono hc2 ?_
      rintro e w' ⟨rfl, d', m, os, ⟨hsz, _, hperm⟩, hsort, rfl⟩
      have hdl : d'.size = n := by rw [hsz]; simpa using hln
      have hp2 : (d'.toList.map (·.1)).Perm (s2.map (·.1)) := by
        have h1 : d'.extract 0 n = d' := by rw [← hdl]; simp
        have h2 : lw.toArray.extract 0 n = lw.toArray := by rw [← hln]; simp
        rw [h1, h2] at hperm
        exact (hperm.map _).trans hp
      have hturn : ∀ p ∈ s2, turnOf s p.1 = p.2.2 := fun p hp' => turnOf_mem hO.ids (hsub.mem hp')
      have hrow2 := hO.row.sublist hsub
      have hs2 : d'.toList.map (·.1) = s2.map (·.1) := by
        refine hp2.eq_of_pairwise (le := fun a b => turnOf s a ≤ turnOf s b) (fun a b ha hb' h1 h2 => ?_) ?_ ?_
        · obtain ⟨pa, hpa, rfl⟩ := List.mem_map.1 (hp2.mem_iff.1 ha)
          obtain ⟨pb, hpb, rfl⟩ := List.mem_map.1 hb'
          rw [hturn pa hpa, hturn pb hpb] at h1 h2
          have : pa = pb := by
            obtain ⟨i, hi, rfl⟩ := List.getElem_of_mem hpa
            obtain ⟨j, hj, rfl⟩ := List.getElem_of_mem hpb
            rcases Nat.lt_trichotomy i j with hij | hij | hij
            · have := List.pairwise_iff_getElem.1 hrow2 i j hi hj hij; omega
            · subst hij; rfl
            · have := List.pairwise_iff_getElem.1 hrow2 j i hj hi hij; omega
          rw [this]
        · rw [List.pairwise_iff_getElem]
          intro i j hi hj hij
          have hi' : i < d'.size := by simpa using hi
          have hj' : j < d'.size := by simpa using hj
          have := hsort i j (Nat.zero_le _) hij (by omega)
          rw [getElem!_pos d' i hi', getElem!_pos d' j hj', ltOf_ord] at this
          have := of_decide_eq_false this
          simpa using this
        · rw [List.pairwise_map]
          exact (hrow2.imp_of_mem (fun {a b} ha hb' hlt => by rw [hturn a ha, hturn b hb']; omega))
      rw [sortWorld_wid, show d'.map (·.1) = (s2.map (·.1)).toArray from Array.toList_inj.1 (by rw [← hs2, Array.toList_map])]
      obtain ⟨r1, r2⟩ := R_sortedI (m := m) (os := os) hR1 (ys := s2.map (·.1)) (by rw [hp.length_eq])
      refine ⟨rfl, r1, (Keep.of_below hB1 _).trans ⟨r2.os, r2.tape, r2.output, r2.size, fun k hk hn => r2.block k hk (fun e => hn (.inl ((Option.some.inj e) ▸ hokg)))⟩⟩
  have HC := Lib.hid hcon
  have H := Lib.hid (show LnAt w ok lb s T from ⟨ma, mg, turn, gs, hV, hO, hT⟩)
  clear hcon hV hO hT hR hp hsub hwf t0 t1 t2 hB1 hnl
  go_enter Try.func27, Try.ntmps27
  go_wp2_with fail
  refine Calls.mono HC.out ?_
  rintro e w2 ⟨rfl, hR2, hK2⟩
  have HR2 := Lib.hid hR2
  have HK2 := Lib.hid hK2
  clear hR2 hK2
  go_wp2_with fail
  go_ret
  exact ⟨rfl, HR2.out, H.out.kept HK2.out (fun k hk _ hr => hd k hr hk), HK2.out⟩
end Go.Proofs.Ytdcifghhamondaa
