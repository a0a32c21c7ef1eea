/- lane.Lanes.All: maps.Keys and slices.Collect by the shelf's contracts. -/
import Derived.Test.YtdcifghhamondaaLnSort
import Derived.Test.YtdcifghhamondaaShelfKeysP
import Derived.Lib.SlKeysI
import Derived.Shelf.AbstractIn
namespace Go.Proofs.Ytdcifghhamondaa
open Go.RowKit Go.Maps Go.Proofs.YtdcifghhamondaaW.PrintWords

theorem MapAt.intKeys {β : Type} {P : Program} {k : TypeId} (hk : P.underlying k = some (.int .i64)) {enc : β → Value} {w : World} {b : Nat} {ps : List (Int × β)} (h : MapAt (intKey hk) enc w b ps) :
    ∃ D : DataW Value, w.ownsMap P k anyV b ps.length D ∧ Maps.size D = ps.length ∧ (ps.map (·.1)).Perm (Go.intKeys D) := by
  obtain ⟨D, h1, h2, _, h4, h5⟩ := h
  refine ⟨D, h1, h4, ?_⟩
  have h1' := h1
  obtain ⟨es, hD, hpw, _⟩ := h1'.entries (int_keyed hk)
  obtain ⟨es', hD', hko⟩ := h1.keysOf
  obtain rfl : es = es' := by rw [hD] at hD'; simpa using hD'
  subst hD
  refine perm_intKeys hpw (fun p hp => by obtain ⟨v, hv⟩ := hko p hp; obtain ⟨x, _, hx, _⟩ := Maps.keyOf_i64 hk hv; exact ⟨x, hx⟩) h2 (fun x => ?_)
  have h6 := (h5 x).1
  have h6 : Maps.has (.map es) (.int .i64 x) = (mget ps x).isSome := h6
  rw [h6]
  constructor
  · intro hx
    obtain ⟨p, hp, rfl⟩ := List.mem_map.1 hx
    rw [mget_mem h2 hp]; rfl
  · intro hx
    obtain ⟨v, hv⟩ := Option.isSome_iff_exists.1 hx
    exact List.mem_map.2 ⟨_, mget_some hv, rfl⟩
theorem keysP_any (mb : Option Nat) (w : World) : Calls Try.prog 29 #[.map mb] w fun e w' => e = .returned (.func (.func 37) #[] #[.pointer (some ⟨w.heap.size, 0, none⟩)]) ∧ w' = w.alloc (.cells #[.map mb] 51) :=
  (callsIn_wide (n := 5)).1 (AnyZI.keys_in Try.keysP Fence.wide 5 trivial rfl mb w)
theorem collectP_any (w : World) (ma : Nat) (s : List En) (h : MapAt KI encP w ma s) (hl : s.length ≤ 1000000) :
    Calls Try.prog 28 #[.func (.func 37) #[] #[.pointer (some ⟨w.heap.size, 0, none⟩)]] (w.alloc (.cells #[.map (some ma)] 51)) fun e w' => ∃ A c l, e = .returned (.slice A l.length c) ∧ l.Perm (s.map (·.1)) ∧ (Kd.int .i64).R 3 w' w.heap.size (fun _ => True) (.slice A l.length c) l ∧ Below w.heap.size w w' := by
  have hlt := h.lt
  have h1 := h.below (below_alloc (Below.refl _ w) (.cells #[.map (some ma)] 51))
  obtain ⟨D, hown, hsz, hperm⟩ := MapAt.intKeys Try.underlying3 h1
  have hb := heap_alloc_new w (.cells #[.map (some ma)] 51)
  have hB : Below w.heap.size w (w.alloc (.cells #[.map (some ma)] 51)) := below_alloc (Below.refl _ _) _
  have hz : w.heap.size < (w.alloc (.cells #[.map (some ma)] 51)).heap.size := by simp
  generalize w.alloc (.cells #[.map (some ma)] 51) = w1 at *
  have hc := blk_cell hb 0
  simp only [List.getElem?_toArray, List.getElem?_cons_zero] at hc
  have hseq : SeqGives Fence.wide 1 Try.prog 37 #[.pointer (some ⟨w.heap.size, 0, none⟩)] encZ (fun ss => ss.Perm (Go.intKeys D)) (Maps.size D) w1 :=
    AnyZI.keys_gives (ρ := Try.keysP_ren) { Try.keysP with } Fence.wide _ trivial rfl (by omega) w.heap.size ma s.length D _ hz hc hown
  have cC := AnyZI.collect_in Try.collectI Fence.wide 3 trivial trivial rfl (by omega) 37 #[.pointer (some ⟨w.heap.size, 0, none⟩)] trivial (enters_of Try.func37 (by kernel_rfl) rfl) _ _ (by rw [hsz]; simp [maxLen]; omega) (by rw [hsz]; omega) _ hseq
  have cC2 : Calls Try.prog 28 _ _ _ := (callsIn_wide (n := 3)).1 cC
  refine Calls.mono cC2 ?_
  rintro e w' ⟨v, l, rfl, hp, hown', _, hBl⟩
  have hR : (Kd.int .i64).R 3 w' w1.heap.size (fun _ => True) v l := Kd.R_of_own hown' (fun _ _ => trivial)
  obtain ⟨A, c, rfl⟩ := Kd.R_slice hR
  exact ⟨A, c, l, rfl, hp.trans hperm.symm, Kd.R_lower hR (Nat.le_of_lt hz), hB.trans (hBl.mono (Nat.le_of_lt hz))⟩

set_option maxHeartbeats 800000 in
theorem laneAll_any (w : World) (ok : Nat → Prop) (lb T : Nat) (s : List En) (h : LnAt w ok lb s T) (hT : T ≤ 1000000) :
    Calls Try.prog 19 #[.pointer (some ⟨lb, 0, none⟩)] w fun e w' => ∃ A c, e = .returned (.slice A s.length c) ∧ (Kd.int .i64).R 3 w' w.heap.size (fun _ => True) (.slice A s.length c) (s.map (·.1)) ∧ Below w.heap.size w w' := by
  obtain ⟨ma, mg, turn, gs, hV, hO, hT'⟩ := h
  have hs : s.length ≤ 1000000 := by omega
  obtain ⟨t0, t1, t2, hlt⟩ := hV.cells
  have HA := Lib.hid hV.at_
  have H := Lib.hid (show LnAt w (fun k => ok k ∧ k < w.heap.size) lb s T from LnAt.mono ⟨ma, mg, turn, gs, hV, hO, hT'⟩ (fun k hk hl => ⟨hk, hl⟩))
  clear hV hO hT'
  go_enter Try.func19, Try.ntmps19
  go_wp2_with fail
  refine Calls.mono (keysP_any _ w) ?_
  rintro e w1 ⟨rfl, rfl⟩
  go_wp2_with fail
  refine Calls.mono (collectP_any w ma s HA.out hs) ?_
  rintro e w2 ⟨A, c, l, rfl, hp, hR, hB⟩
  have hl : l.length = s.length := by rw [hp.length_eq, List.length_map]
  rw [hl] at hR ⊢
  have HR := Lib.hid hR
  have HB := Lib.hid hB
  have HP := Lib.hid hp
  clear hR hB hp hl
  go_wp2_with fail
  refine Calls.mono (laneSorted_any w2 (fun k => ok k ∧ k < w.heap.size) (fun k => w.heap.size ≤ k) lb T s s (H.out.below HB.out) w.heap.size A s.length c l (Kd.R_mono (Kd.R_bound HR.out) (fun k hk => hk.2.1)) (fun k h1 h2 => by omega) HP.out (List.Sublist.refl _) hs) ?_
  rintro e w3 ⟨rfl, hR3, _, hK3⟩
  have HR3 := Lib.hid hR3
  have HK3 := Lib.hid hK3
  clear hR3 hK3
  go_wp2_with fail
  go_ret
  exact ⟨A, c, rfl, Kd.R_mono HR3.out (fun _ _ => trivial), HK3.out.below HB.out HB.out.size (fun k _ h => h)⟩
end Go.Proofs.Ytdcifghhamondaa
