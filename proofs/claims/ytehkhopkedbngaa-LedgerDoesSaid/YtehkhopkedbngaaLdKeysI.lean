/- ledger.Ledger.Keys: slices.Sorted(maps.Keys(..)) by the shelf's contracts. -/
import Derived.Test.YtehkhopkedbngaaLdMemI
import Derived.Test.YtehkhopkedbngaaShelfKeysE
import Derived.Sort.KeysCollected
import Derived.Shelf.AbstractIn
namespace Go.Proofs.Ytehkhopkedbngaa
open Go.RowKit Go.Maps Go.Sort Go.Proofs.YtehkhopkedbngaaW.PrintWords

theorem MapAt.sKeys {β : Type} {P : Program} {k : TypeId} (hk : P.underlying k = some .string) {enc : β → Value} {w : World} {b : Nat} {ps : List (ByteArray × β)} (h : MapAt (strKey hk) enc w b ps) :
    ∃ D : DataW Value, w.ownsMap P k anyV b ps.length D ∧ Maps.size D = ps.length ∧ (ps.map (fun p => p.1.data.toList)).Perm (strKeys D) := by
  obtain ⟨D, h1, h2, _, h4, h5⟩ := h
  refine ⟨D, h1, h4, ?_⟩
  have h1' := h1
  obtain ⟨es, hD, hpw, _⟩ := h1'.entries (string_keyed hk)
  obtain ⟨es', hD', hko⟩ := h1.keysOf
  obtain rfl : es = es' := by rw [hD] at hD'; simpa using hD'
  subst hD
  have hn : (ps.map (fun p => p.1.data.toList)).Nodup := by
    rw [List.nodup_iff_pairwise_ne, List.pairwise_map] at h2 ⊢
    exact h2.imp (fun {a b} hne e => hne (Go.WideShapes.bytes_inj e))
  refine perm_strKeys hpw (fun p hp => by obtain ⟨v, hv⟩ := hko p hp; obtain ⟨x, _, hx, _⟩ := Maps.keyOf_str hk hv; exact ⟨x, hx⟩) hn (fun x => ?_)
  have h6 := (h5 ⟨x.toArray⟩).1
  have h6 : Maps.has (.map es) (.string x) = (mget ps ⟨x.toArray⟩).isSome := by
    have e : (strKey hk).lit ⟨x.toArray⟩ = .string x := by show Lit.string _ = _; simp
    rw [e] at h6; exact h6
  rw [h6]
  constructor
  · intro hx
    obtain ⟨p, hp, rfl⟩ := List.mem_map.1 hx
    have e : (⟨p.1.data.toList.toArray⟩ : ByteArray) = p.1 := Go.WideShapes.bytes_inj (by simp)
    rw [e, mget_mem h2 hp]; rfl
  · intro hx
    obtain ⟨v, hv⟩ := Option.isSome_iff_exists.1 hx
    exact List.mem_map.2 ⟨_, mget_some hv, by simp⟩
theorem keysE_any (mb : Option Nat) (w : World) : Calls Try.prog 36 #[.map mb] w fun e w' => e = .returned (.func (.func 44) #[] #[.pointer (some ⟨w.heap.size, 0, none⟩)]) ∧ w' = w.alloc (.cells #[.map mb] 58) :=
  (callsIn_wide (n := 5)).1 (AnyZ.keys_in Try.keysE Fence.wide 5 trivial rfl mb w)
theorem sortsS (m : Nat) : AnyZ.SortsIn Try.prog Try.sortedS_ren Fence.wide m :=
  ⟨fun blk off cap ss W hH hblk hsz => callsIn_wide.2 (AnyM.slices_Sort_string Try.sortS blk off cap ss W hH hblk hsz),
   fun p cap W => callsIn_wide.2 (AnyM.slices_Sort_string_none Try.sortS p cap W)⟩
theorem rising_sorted {α : Type} {r : List (Ent α)} (h : Rising r) {ss : List (List UInt8)} (hp : ss.Perm (r.map (fun p => p.1.data.toList))) : ss.mergeSort leB = r.map (fun p => p.1.data.toList) := by
  rw [mergeSort_of_perm hp]
  refine List.mergeSort_of_pairwise ?_
  rw [List.pairwise_map]
  unfold Rising at h
  exact h.imp (fun {a b} hab => by
    have hab : a.1.data.toList < b.1.data.toList := hab
    simp only [decide_eq_true_eq]
    exact List.le_of_lt hab)
theorem sortedE_any (w : World) (mb : Nat) (r : List (Ent Int)) (h : MapAt KLI encLI w mb r) (hr : Rising r) (hl : r.length ≤ 1000000) :
    Calls Try.prog 35 #[.func (.func 44) #[] #[.pointer (some ⟨w.heap.size, 0, none⟩)]] (w.alloc (.cells #[.map (some mb)] 58)) fun e w' => ∃ A c, e = .returned (.slice A r.length c) ∧ Kd.string.R 9 w' w.heap.size (fun _ => True) (.slice A r.length c) (r.map (·.1)) ∧ Below w.heap.size w w' := by
  have h1 := h.below (below_alloc (Below.refl _ w) (.cells #[.map (some mb)] 58))
  obtain ⟨D, hown, hsz, hperm⟩ := MapAt.sKeys Try.underlying9 h1
  have hb := heap_alloc_new w (.cells #[.map (some mb)] 58)
  have hB : Below w.heap.size w (w.alloc (.cells #[.map (some mb)] 58)) := below_alloc (Below.refl _ _) _
  have hz : w.heap.size < (w.alloc (.cells #[.map (some mb)] 58)).heap.size := by simp
  generalize w.alloc (.cells #[.map (some mb)] 58) = w1 at *
  have hc := blk_cell hb 0
  simp only [List.getElem?_toArray, List.getElem?_cons_zero] at hc
  have hseq : SeqGives Fence.wide 2 Try.prog 44 #[.pointer (some ⟨w.heap.size, 0, none⟩)] encStr (fun ss => ss.Perm (strKeys D)) (Maps.size D) w1 :=
    AnyZ.keys_gives (ρ := Try.keysE_ren) { Try.keysE with } Fence.wide _ trivial rfl (by omega) w.heap.size mb r.length D _ hz hc hown
  have cS := AnyZ.sorted_in Try.sortedS Fence.wide 5 trivial trivial trivial trivial rfl (by omega) (sortsS _) (enters_of Try.func43 (by kernel_rfl) rfl) 44 #[.pointer (some ⟨w.heap.size, 0, none⟩)] trivial (enters_of Try.func44 (by kernel_rfl) rfl) _ _ (by rw [hsz]; simp [maxLen]; omega) (by rw [hsz]; omega) _ hseq
  have cS2 : Calls Try.prog 35 _ _ _ := (callsIn_wide (n := 5)).1 cS
  refine Calls.mono cS2 ?_
  rintro e w' ⟨v, ss, rfl, hp, hown', _, hBl⟩
  have hs := rising_sorted hr (hp.trans hperm.symm)
  have hl2 : ss.length = (r.map (·.1)).length := by rw [(hp.trans hperm.symm).length_eq, List.length_map, List.length_map]
  have hown2 : w'.ownsRow w1.heap.size 9 1 v (r.map (·.1)).length (encs Value.string (r.map (·.1))) := by
    rw [← hl2]
    have e1 : (ss.mergeSort leB).map encStr = encs Value.string (r.map (·.1)) := by
      rw [hs]
      unfold encs
      rw [List.map_map, List.map_map]
      apply List.map_congr_left
      intro p _
      show encStr p.1.data.toList = Value.string p.1
      unfold encStr
      congr 1
    rw [← e1]
    exact hown'
  have hR : Kd.string.R 9 w' w1.heap.size (fun _ => True) v (r.map (·.1)) := Kd.R_of_own hown2 (fun _ _ => trivial)
  obtain ⟨A, c, rfl⟩ := Kd.R_slice hR
  rw [List.length_map] at hR ⊢
  exact ⟨A, c, rfl, Kd.R_lower hR (Nat.le_of_lt hz), hB.trans (hBl.mono (Nat.le_of_lt hz))⟩

set_option maxHeartbeats 800000 in
theorem ldIKeys_any (w : World) (ok : Nat → Prop) (lb : Nat) (room : Int) (r : List (Ent Int)) (h : LdIAt w ok lb room r) (hl : r.length ≤ 1000000) :
    Calls Try.prog 22 #[.pointer (some ⟨lb, 0, none⟩)] w fun e w' => ∃ A c, e = .returned (.slice A r.length c) ∧ Kd.string.R 9 w' w.heap.size (fun _ => True) (.slice A r.length c) (r.map (·.1)) ∧ Below w.heap.size w w' := by
  obtain ⟨mb, hV⟩ := h
  obtain ⟨t0, t1, hlt⟩ := hV.cells
  have HM := Lib.hid hV.map
  have HR := Lib.hid hV.row
  clear hV
  go_enter Try.func22, Try.ntmps22
  go_wp2_with fail
  refine Calls.mono (keysE_any _ w) ?_
  rintro e w1 ⟨rfl, rfl⟩
  go_wp2_with fail
  refine Calls.mono (sortedE_any w mb r HM.out HR.out hl) ?_
  rintro e w2 ⟨A, c, rfl, hR, hB⟩
  have HR2 := Lib.hid hR
  have HB2 := Lib.hid hB
  clear hR hB
  go_wp2_with fail
  go_ret
  exact ⟨A, c, rfl, HR2.out, HB2.out⟩
end Go.Proofs.Ytehkhopkedbngaa
