/- lane.Lanes.Add. -/
import Derived.Test.YtdcifghhamondaaLnMem
import Derived.Test.YtdcifghhamondaaMp2
import Derived.Deep.RegionHeld3
import Derived.Deep.QuietTactic
import Derived.BigQuiet
import Derived.BigRegion
namespace Go.Proofs.Ytdcifghhamondaa
open Go.RowKit Go.Proofs.YtdcifghhamondaaW.PrintWords

set_option maxHeartbeats 800000 in
theorem laneAdd_old (w : World) (ok : Nat → Prop) (lb ma mg : Nat) (turn : Int) (s : List En) (gs : List (ByteArray × Value)) (g : ByteArray) (id : Int) (h : LnV w ok lb ma mg turn s gs) (hw : (Lit.int .i64 id).wf = true) {v : ByteArray × Int} (hm : mget s id = some v) :
    Calls Try.prog 12 #[.pointer (some ⟨lb, 0, none⟩), .string g, .int .i64 id] w fun e w' => e = .returned (.bool false) ∧ Below w.heap.size w w' := by
  have hlk := h.at_.look under_at (zero_place w) (a := id) hw
  rw [hm] at hlk
  have hlk : (Instr.lookup 51 (.map (some ma)) (.int .i64 id) true).run Try.prog w = .ok (.tuple #[.agg #[.string v.1, .int .i64 v.2], .bool true]) w := hlk
  obtain ⟨t0, t1, t2, hlt⟩ := h.cells
  clear h hm
  go_enter Try.func12, Try.ntmps12
  go_wp2_with fail
  go_ret
  exact ⟨rfl, below_alloc (Below.refl _ _) _⟩

theorem mput_none {α β : Type} [DecidableEq α] {ps : List (α × β)} {a : α} (x : β) (h : mget ps a = none) : (mput ps a x).Perm (ps ++ [(a, x)]) := by
  have e : mdel ps a = ps := by
    unfold mdel
    rw [List.filter_eq_self]
    intro p hp
    have : (ps.find? (fun p => decide (p.1 = a))) = none := by
      unfold mget at h
      simpa using h
    have := List.find?_eq_none.1 this p hp
    simpa using this
  unfold mput
  rw [e]
  exact (List.perm_append_singleton _ _).symm
theorem LnV.turned {w w' : World} {ok : Nat → Prop} {lb ma mg : Nat} {turn turn' : Int} {s : List En} {gs : List (ByteArray × Value)} (h : LnV w ok lb ma mg turn s gs) (hl : w'.heap[lb]? = some (.cells #[.int .i64 turn', .map (some ma), .map (some mg)] 54 (0, 0)))
    (hm : ∀ k, k ≠ lb → k < w.heap.size → w'.heap[k]? = w.heap[k]?) : LnV w' ok lb ma mg turn' s gs :=
  ⟨hl, h.at_.move (hm ma h.nes.1 h.lt.2.1), h.gm.move (hm mg h.nes.2 h.lt.2.2), fun g v hv => ⟨Kd.R_step (h.row g v hv).1 (fun k hk hl => hm k hk.2.1 hl), (h.row g v hv).2⟩, h.gone, h.apart, h.oklb, h.okma, h.okmg, h.ne⟩
/-- The row of a group, be it known or not. -/
def rowOf (gs : List (ByteArray × Value)) (g : ByteArray) : Value := (mget gs g).getD (.slice none 0 0)
theorem LnV.rowR {w : World} {ok : Nat → Prop} {lb ma mg : Nat} {turn : Int} {s : List En} {gs : List (ByteArray × Value)} (h : LnV w ok lb ma mg turn s gs) (g : ByteArray) : (Kd.int .i64).R 3 w 0 (fun k => ok k ∧ k ≠ lb ∧ k ≠ ma ∧ k ≠ mg) (rowOf gs g) (grp s g) := by
  unfold rowOf
  cases hv : mget gs g with
  | none => rw [h.gone g hv]; exact Kd.R_nil _ _ _ _ _
  | some v => exact (h.row g v hv).1
theorem LnV.rowLook {w : World} {ok : Nat → Prop} {lb ma mg : Nat} {turn : Int} {s : List En} {gs : List (ByteArray × Value)} (h : LnV w ok lb ma mg turn s gs) {g : ByteArray} (hg : g.size ≤ maxLen) :
    (Instr.lookup 52 (.map (some mg)) (.string g) false).run Try.prog w = .ok (rowOf gs g) w := by
  have := h.gm.look1 under_groups (zero_row w) (a := g) hg
  rw [Option.map_id_fun] at this
  exact this

theorem row_own {w : World} {e b : Nat} {ok : Nat → Prop} {v : Value} {xs : List Int} (h : (Kd.int .i64).R e w b ok v xs) (hne : xs ≠ []) : ∃ k, v.ownBlock = some k ∧ k < w.heap.size ∧ ok k := by
  obtain ⟨k, cap, hv, _, hk, _⟩ := Kd.R_form h (List.length_pos_iff.2 hne)
  have : v.ownBlock = some k := by rw [hv]; rfl
  exact ⟨k, this, hk, h.1 k this⟩
theorem LnV.added {w w6 : World} {ok : Nat → Prop} {lb ma mg : Nat} {turn turn' : Int} {s : List En} {gs : List (ByteArray × Value)} (h : LnV w ok lb ma mg turn s gs) {g : ByteArray} {id : Int} {v5 : Value}
    (hm6 : ∀ k, k < w.heap.size → k ≠ lb → k ≠ ma → k ≠ mg → some k ≠ (rowOf gs g).ownBlock → w6.heap[k]? = w.heap[k]?)
    (hd6 : w6.heap[lb]? = some (.cells #[.int .i64 turn', .map (some ma), .map (some mg)] 54 (0, 0))) (ha6 : MapAt KI encP w6 ma (s ++ [(id, (g, turn'))])) (hg6 : MapAt KG _root_.id w6 mg (mput gs g v5))
    (hr6 : (Kd.int .i64).R 3 w6 0 (fun k => (ok k ∨ w.heap.size ≤ k) ∧ k ≠ lb ∧ k ≠ ma ∧ k ≠ mg) v5 (grp s g ++ [id])) (hat : v5.ownBlock = (rowOf gs g).ownBlock ∨ ∃ b, v5.ownBlock = some b ∧ w.heap.size ≤ b) :
    LnV w6 (fun k => ok k ∨ w.heap.size ≤ k) lb ma mg turn' (s ++ [(id, (g, turn'))]) (mput gs g v5) := by
  have hap : ∀ g' v', g' ≠ g → mget gs g' = some v' → v'.ownBlock ≠ (rowOf gs g).ownBlock := by
    intro g' v' hne hv
    obtain ⟨k, hk, _, _⟩ := row_own (h.row g' v' hv).1 (h.row g' v' hv).2
    unfold rowOf
    cases hg : mget gs g with
    | none => rw [hk]; simp [Value.ownBlock]
    | some v => exact h.apart g' g v' v hne hv hg
  have hap5 : ∀ g' v', g' ≠ g → mget gs g' = some v' → v'.ownBlock ≠ v5.ownBlock := by
    intro g' v' hne hv
    rcases hat with hat | ⟨b, hb, hle⟩
    · rw [hat]; exact hap g' v' hne hv
    · obtain ⟨k, hk, hlt, _⟩ := row_own (h.row g' v' hv).1 (h.row g' v' hv).2
      rw [hk, hb]
      intro e
      have := Option.some.inj e
      omega
  refine ⟨hd6, ha6, hg6, fun g' v hv => ?_, fun g' hv => ?_, fun g1 g2 v1 v2 hne h1 h2 => ?_, .inl h.oklb, .inl h.okma, .inl h.okmg, h.ne⟩
  · rw [grp_snoc]
    by_cases e : g' = g
    · subst e
      rw [mget_put_same] at hv
      obtain rfl := Option.some.inj hv
      rw [if_pos rfl]
      exact ⟨hr6, by simp⟩
    · rw [mget_put_other gs v5 e] at hv
      rw [if_neg (fun e' => e e'.symm)]
      obtain ⟨hR, hne⟩ := h.row g' v hv
      have hR2 : (Kd.int .i64).R 3 w 0 (fun k => (ok k ∧ k ≠ lb ∧ k ≠ ma ∧ k ≠ mg) ∧ some k ≠ (rowOf gs g).ownBlock) v (grp s g') := Kd.R_of_own (Kd.own_of_R hR) (fun k hk => ⟨hR.1 k hk, fun e2 => hap g' v e hv (hk.trans e2)⟩)
      exact ⟨Kd.R_mono (Kd.R_step hR2 (fun k hk hl => hm6 k hl hk.1.2.1 hk.1.2.2.1 hk.1.2.2.2 hk.2)) (fun k hk => ⟨.inl hk.1.1, hk.1.2⟩), hne⟩
  · rw [grp_snoc]
    by_cases e : g' = g
    · subst e
      rw [mget_put_same] at hv
      cases hv
    · rw [mget_put_other gs v5 e] at hv
      rw [if_neg (fun e' => e e'.symm)]
      exact h.gone g' hv
  · by_cases e1 : g1 = g
    · subst e1
      rw [mget_put_same] at h1
      obtain rfl := Option.some.inj h1
      rw [mget_put_other gs v5 (Ne.symm hne)] at h2
      exact Ne.symm (hap5 g2 v2 (Ne.symm hne) h2)
    · rw [mget_put_other gs v5 e1] at h1
      by_cases e2 : g2 = g
      · subst e2
        rw [mget_put_same] at h2
        obtain rfl := Option.some.inj h2
        exact hap5 g1 v1 e1 h1
      · rw [mget_put_other gs v5 e2] at h2
        exact h.apart g1 g2 v1 v2 hne h1 h2

set_option maxHeartbeats 1600000 in
theorem laneAdd_new (w : World) (ok : Nat → Prop) (lb ma mg : Nat) (turn : Int) (s : List En) (gs : List (ByteArray × Value)) (g : ByteArray) (id : Int) (h : LnV w ok lb ma mg turn s gs) (hw : (Lit.int .i64 id).wf = true) (hg : g.size ≤ maxLen) (hm : mget s id = none) (ht0 : 0 ≤ turn) (ht : turn ≤ 1000000) (hs : s.length ≤ 1000000) (hgl : gs.length ≤ 1000000) :
    Calls Try.prog 12 #[.pointer (some ⟨lb, 0, none⟩), .string g, .int .i64 id] w fun e w' => e = .returned (.bool true) ∧ (∃ gs', LnV w' (fun k => ok k ∨ w.heap.size ≤ k) lb ma mg (turn + 1) (s ++ [(id, (g, turn + 1))]) gs' ∧ gs'.length ≤ gs.length + 1) ∧ Keep ok w w' := by
  have hlk := h.at_.look under_at (zero_place w) (a := id) hw
  rw [hm] at hlk
  have hlk : (Instr.lookup 51 (.map (some ma)) (.int .i64 id) true).run Try.prog w = .ok (.tuple #[.agg #[.string ByteArray.empty, .int .i64 0], .bool false]) w := hlk
  obtain ⟨t0, t1, t2, hlt⟩ := h.cells
  have H := Lib.hid h
  have hfz : w.frozen? ⟨lb, 0, none⟩ = false := by have := h.hd; simp [World.frozen?, this]
  clear h
  have HM := Lib.hid hm
  clear hm
  go_enter Try.func12, Try.ntmps12
  go_wp2_with fail
  obtain ⟨W2, hW2⟩ : ∃ W2, W2 = (w.setCell ⟨lb, 0, none⟩ (.int .i64 (turn + 1))).alloc (.cells #[.string ByteArray.empty, .int .i64 0] 56) := ⟨_, rfl⟩
  rw [← hW2]
  have hz1 : (w.setCell ⟨lb, 0, none⟩ (.int .i64 (turn + 1))).heap.size = w.heap.size := by simp [World.setCell]
  have hB2 : Below w.heap.size (w.setCell ⟨lb, 0, none⟩ (.int .i64 (turn + 1))) W2 := by
    rw [hW2]
    exact (Below.refl _ _).alloc (by rw [hz1]; exact Nat.le_refl _) _
  have hm2 : ∀ k, k ≠ lb → k < w.heap.size → W2.heap[k]? = w.heap[k]? := fun k h1 h2 => (hB2.block k h2).trans (Below.heap_setCell w ⟨lb, 0, none⟩ _ k h1)
  have hl2 : W2.heap[lb]? = some (.cells #[.int .i64 (turn + 1), .map (some ma), .map (some mg)] 54 (0, 0)) := by
    rw [hB2.block lb hlt]
    have := H.out.hd
    simp [World.setCell, this, Array.getElem?_modify]
  have hV2 := H.out.turned hl2 hm2
  have hz2 : w.heap.size ≤ W2.heap.size := by rw [hW2]; simp [World.setCell]
  have hK2 : Keep ok w W2 := ⟨hB2.os, hB2.tape, hB2.output, hz2, fun k hk hn => hm2 k (fun e => hn (by rw [e]; exact H.out.oklb)) hk⟩
  have HV2 := Lib.hid hV2
  have HK2 := Lib.hid hK2
  obtain ⟨q0, q1, q2, _⟩ := hV2.cells
  clear hW2 hz1 hB2 hl2 hV2 hK2 t0 t1 t2 hlk hfz
  go_region_held3 (fun w' => w'.cell? ⟨lb, 0, none⟩ = some (.int .i64 (turn + 1)) ∧ w'.cell? ⟨lb, 1, none⟩ = some (.map (some ma))) (first | exact ⟨q0, q1⟩ | exact ⟨r0, r1⟩) (first | (refine upon_put (K := KI) (enc := encP) (show MapAt KI encP W2.drew ma s from HV2.out.at_) under_at (by simp [maxLen]; omega) id (g, turn + 1) rfl rfl hw ?_; intro w3 hM3 hB3; have r0 := hB3.cell (show W2.drew.cell? ⟨lb, 0, none⟩ = _ from q0) (Ne.symm HV2.out.nes.1); have r1 := hB3.cell (show W2.drew.cell? ⟨lb, 1, none⟩ = _ from q1) (Ne.symm HV2.out.nes.1)))
  have hhd3 := hB3.blk HV2.out.hd (Ne.symm HV2.out.nes.1)
  have hS3 : MapAt KI encP w3 ma (s ++ [(id, (g, turn + 1))]) := hM3.perm (mput_none _ HM.out)
  have hG3 : MapAt KG _root_.id w3 mg gs := HV2.out.gm.move (hB3.2.2.2.2 mg (Ne.symm HV2.out.ne))
  have hrows : ∀ g' v, mget gs g' = some v → (Kd.int .i64).R 3 w3 0 (fun k => ok k ∧ k ≠ lb ∧ k ≠ ma ∧ k ≠ mg) v (grp s g') := fun g' v hv => Kd.R_step (HV2.out.row g' v hv).1 (fun k hk _ => hB3.2.2.2.2 k hk.2.2.1)
  have hR3 : (Kd.int .i64).R 3 w3 0 (fun k => (ok k ∨ w.heap.size ≤ k) ∧ k ≠ lb ∧ k ≠ ma ∧ k ≠ mg) (rowOf gs g) (grp s g) := Kd.R_mono (Kd.R_step (HV2.out.rowR g) (fun k hk _ => hB3.2.2.2.2 k hk.2.2.1)) (fun k hk => ⟨.inl hk.1, hk.2⟩)
  have hK3 : Keep ok w w3 := HK2.out.trans ((hB3.keep (S := fun k => ok k ∨ w.heap.size ≤ k) (.inl HV2.out.okma)).undrew)
  have hz3 := hK3.size
  have hk23 : ∀ k, k < w.heap.size → k ≠ lb → k ≠ ma → w3.heap[k]? = w.heap[k]? := fun k hk h1 h2 => (hB3.2.2.2.2 k h2).trans (hm2 k h1 hk)
  have hlw := H.out.lt
  have hBa : Below w3.heap.size w3 ((w3.alloc (.cells #[.int .i64 id] 3)).drew) := (below_alloc (Below.refl _ _) _).drew
  have hlook : ∀ W, W.heap[mg]? = w3.heap[mg]? → (Instr.lookup 52 (.map (some mg)) (.string g) false).run Try.prog W = .ok (rowOf gs g) W := fun W hW => by
    have := (hG3.move hW).look1 under_groups (zero_row W) (a := g) hg
    rw [Option.map_id_fun] at this
    exact this
  have hl1 := hlook w3.drew rfl
  have hl2 := hlook ((w3.alloc (.cells #[.int .i64 id] 3)).drew) (hBa.block mg hG3.lt)
  have hgn := grp_len s g
  have hcid : (Kd.int .i64).C ((w3.alloc (.cells #[.int .i64 id] 3)).drew) (some ⟨w3.heap.size, 0, none⟩) 1 [id] :=
    C_block (w := (w3.alloc (.cells #[.int .i64 id] 3)).drew) (g := w3.heap.size) (t := 3) (cs := #[.int .i64 id]) (heap_alloc_new w3 _) [id] rfl (by simp)
  have hnl : ∀ k, (k = lb ∨ k = ma ∨ k = mg) → k < w3.heap.size ∧ some k ≠ (rowOf gs g).ownBlock := fun k hk => ⟨by rcases hk with rfl | rfl | rfl <;> omega, fun e => by have := (hR3.1 k e.symm).2; rcases hk with rfl | rfl | rfl <;> simp at this⟩
  have HNL := Lib.hid hnl
  obtain ⟨q0, q1, q2⟩ : w3.cell? ⟨lb, 0, none⟩ = some (.int .i64 (turn + 1)) ∧ w3.cell? ⟨lb, 1, none⟩ = some (.map (some ma)) ∧ w3.cell? ⟨lb, 2, none⟩ = some (.map (some mg)) := ⟨blk_cell hhd3 0, blk_cell hhd3 1, blk_cell hhd3 2⟩
  have HR3 := Lib.hid hR3
  have HG3 := Lib.hid hG3
  have HCI := Lib.hid hcid
  have HBA := Lib.hid hBa
  clear hM3 hlook hR3 hcid hBa r0 r1 hnl
  go_wp2_with fail
  go_region_held3 (fun w' => w'.cell? ⟨lb, 2, none⟩ = some (.map (some mg))) (first | exact q2 | exact r2 | go_keep) (first | (refine Kd.R_append_rows_step (Kd.int .i64) (w0 := (w3.alloc (.cells #[.int .i64 id] 3)).drew) 0 (by rfl) (.tmp 47) (.tmp 49) 41 3 (.int .i64 0) 8 rfl Try.underlying41 info_int rfl (by decide) (by omega) (rowOf gs g) (grp s g) [id] (some ⟨w3.heap.size, 0, none⟩) 1 1 (fun k => (ok k ∨ w.heap.size ≤ k) ∧ k ≠ lb ∧ k ≠ ma ∧ k ≠ mg) (fun _ => False) rfl rfl (by exact Kd.R_below HR3.out HBA.out) (by exact HCI.out) (fun _ _ h => h) (fun _ h => h.elim) (fun k hk => ⟨.inr (Nat.le_trans hz3 (Nat.le_trans HBA.out.size hk)), by have := HBA.out.size; omega, by have := HBA.out.size; omega, by have := HBA.out.size; omega⟩) (Below.refl _ _) (Nat.zero_le _) (by omega) ?_; intro v5 w5 hR5 _ hg5 hat5; have hk5 : ∀ k, (k = lb ∨ k = ma ∨ k = mg) → w5.heap[k]? = w3.heap[k]? := (fun k hk => (hg5.block k (Nat.lt_of_lt_of_le (HNL.out k hk).1 HBA.out.size) (HNL.out k hk).2).trans (HBA.out.block k (HNL.out k hk).1)); have r2 : w5.cell? ⟨lb, 2, none⟩ = some (.map (some mg)) := (World.cell?_of_block (a := ⟨lb, 2, none⟩) (hk5 lb (.inl rfl))).trans q2) | (refine upon_put (K := KG) (enc := _root_.id) (show MapAt KG _root_.id w5 mg gs from HG3.out.move (hk5 mg (.inr (.inr rfl)))) under_groups (by simp [maxLen]; omega) g v5 rfl rfl hg ?_; intro w6 hM6 hB6; have r2 : w6.cell? ⟨lb, 2, none⟩ = some (.map (some mg)) := hB6.cell r2 (Ne.symm HV2.out.nes.2)))
  all_goals
    go_wp2_with fail
    go_ret
    have hm56 : ∀ k, k < w.heap.size → k ≠ lb → k ≠ ma → k ≠ mg → some k ≠ (rowOf gs g).ownBlock → w6.heap[k]? = w.heap[k]? := fun k hk h1 h2 h3 h4 => by
      have hk3 : k < w3.heap.size := Nat.lt_of_lt_of_le hk hz3
      exact (hB6.2.2.2.2 k h3).trans (((hg5.block k (Nat.lt_of_lt_of_le hk3 HBA.out.size) h4).trans (HBA.out.block k hk3)).trans (hk23 k hk h1 h2))
    have hglen : (mput gs g v5).length ≤ gs.length + 1 := by rw [mput_length HG3.out.nodup]; split <;> omega
    have hsz5 : w3.heap.size ≤ w5.heap.size := Nat.le_trans HBA.out.size hg5.size
    refine ⟨rfl, ⟨mput gs g v5, And.intro (H.out.added hm56 (hB6.blk ((hk5 lb (.inl rfl)).trans hhd3) (Ne.symm HV2.out.nes.2)) (hS3.move ((hB6.2.2.2.2 ma HV2.out.ne).trans (hk5 ma (.inr (.inl rfl))))) hM6 (Kd.R_step hR5 (fun k hk _ => hB6.2.2.2.2 k hk.2.2.2)) ?_) hglen⟩, ?_⟩
    · rcases hat5 with hat5 | ⟨b, hb, hle⟩
      · exact .inl hat5
      · exact .inr ⟨b, hb, Nat.le_trans hz3 (Nat.le_trans HBA.out.size hle)⟩
    · refine ⟨hB6.1.trans (hg5.os.trans (HBA.out.os.trans hK3.os)), hB6.2.1.trans (hg5.tape.trans (HBA.out.tape.trans hK3.tape)), hB6.2.2.1.trans (hg5.output.trans (HBA.out.output.trans hK3.output)), by rw [hB6.2.2.2.1]; omega, fun k hk hn => ?_⟩
      refine hm56 k hk (fun e => hn (e ▸ H.out.oklb)) (fun e => hn (e ▸ H.out.okma)) (fun e => hn (e ▸ H.out.okmg)) (fun e => ?_)
      rcases (HR3.out.1 k e.symm).1 with h1 | h1
      · exact hn h1
      · omega

def lAdd (s : List En) (g : ByteArray) (id t : Int) : List En := if hasEn s id then s else s ++ [(id, (g, t))]
theorem laneAdd_any (w : World) (ok : Nat → Prop) (lb T : Nat) (s : List En) (g : ByteArray) (id : Int) (h : LnAt w ok lb s T) (hw : (Lit.int .i64 id).wf = true) (hg : g.size ≤ maxLen) (hT : T ≤ 1000000) :
    Calls Try.prog 12 #[.pointer (some ⟨lb, 0, none⟩), .string g, .int .i64 id] w fun e w' => e = .returned (.bool (!hasEn s id)) ∧ (∃ t, LnAt w' (fun k => ok k ∨ w.heap.size ≤ k) lb (lAdd s g id t) (T + 1)) ∧ Keep ok w w' := by
  obtain ⟨ma, mg, turn, gs, hV, hO, h0, h1, h2, h3⟩ := h
  have hh := en_has s id
  cases hm : mget s id with
  | some v =>
    rw [hm] at hh
    have hh : hasEn s id = true := hh
    refine Calls.mono (laneAdd_old w ok lb ma mg turn s gs g id hV hw hm) ?_
    rintro e w' ⟨rfl, hB⟩
    refine ⟨by rw [hh]; rfl, ⟨0, ?_⟩, Keep.of_below hB ok⟩
    unfold lAdd
    rw [if_pos hh]
    exact LnAt.mono (LnAt.below ⟨ma, mg, turn, gs, hV, hO, h0, by omega, by omega, by omega⟩ hB) (fun k hk _ => .inl hk)
  | none =>
    rw [hm] at hh
    have hh : hasEn s id = false := hh
    refine Calls.mono (laneAdd_new w ok lb ma mg turn s gs g id hV hw hg hm h0 (by omega) (by omega) (by omega)) ?_
    rintro e w' ⟨rfl, ⟨gs', hV', hgl⟩, hK⟩
    refine ⟨by rw [hh]; rfl, ⟨turn + 1, ?_⟩, hK⟩
    unfold lAdd
    rw [if_neg (by rw [hh]; decide)]
    exact ⟨ma, mg, turn + 1, gs', hV', hO.add g hh, by omega, by omega, by omega, by simp; omega⟩
end Go.Proofs.Ytdcifghhamondaa
