/- lane.Lanes.Heads. -/
import Derived.Test.YtdcifghhamondaaLnSort
import Derived.Test.YtdcifghhamondaaLnCopy
namespace Go.Proofs.Ytdcifghhamondaa
open Go.RowKit Go.Maps Go.Proofs.YtdcifghhamondaaW.PrintWords

def hd0 (s : List En) (g : ByteArray) : Int := (grp s g).headD 0
theorem hd0_mem {s : List En} {g : ByteArray} (h : grp s g ≠ []) : (grp s g).head? = some (hd0 s g) := by
  unfold hd0
  cases hl : grp s g with
  | nil => exact absurd hl h
  | cons x l => rfl
theorem heads_perm {s : List En} (hn : (s.map (·.1)).Nodup) {gs : List (ByteArray × Value)} (hg : (gs.map (·.1)).Nodup) (h1 : ∀ g v, mget gs g = some v → grp s g ≠ []) (h2 : ∀ g, mget gs g = none → grp s g = []) :
    (gs.map (fun p => hd0 s p.1)).Perm ((lHeads s).map (·.1)) := by
  have hkey : ∀ p ∈ gs, ∃ t, (hd0 s p.1, (p.1, t)) ∈ s := fun p hp => by
    have hne := h1 p.1 p.2 (mget_mem hg hp)
    have := hd0_mem hne
    exact grp_mem.1 (List.mem_of_head? this)
  have hinj : ∀ x g g' t t', (x, (g, t)) ∈ s → (x, (g', t')) ∈ s → g = g' := fun x g g' t t' a b => by
    have e1 := en_get hn a
    rw [en_get hn b] at e1
    have e2 := Option.some.inj e1
    exact (congrArg Prod.fst e2).symm
  refine (List.perm_ext_iff_of_nodup ?_ ?_).2 (fun x => ?_)
  · rw [List.nodup_iff_pairwise_ne, List.pairwise_map]
    rw [List.nodup_iff_pairwise_ne, List.pairwise_map] at hg
    refine hg.imp_of_mem (fun {p q} hp hq hne e => hne ?_)
    obtain ⟨t, ht⟩ := hkey p hp
    obtain ⟨t', ht'⟩ := hkey q hq
    rw [e] at ht
    exact hinj _ _ _ _ _ ht ht'
  · exact (List.Sublist.map _ List.filter_sublist).nodup hn
  · rw [List.mem_map, List.mem_map]
    constructor
    · rintro ⟨p, hp, rfl⟩
      obtain ⟨t, ht⟩ := hkey p hp
      exact ⟨_, (lHeads_mem hn).2 ⟨ht, hd0_mem (h1 p.1 p.2 (mget_mem hg hp))⟩, rfl⟩
    · rintro ⟨p, hp, rfl⟩
      obtain ⟨hm, hh⟩ := (lHeads_mem hn).1 hp
      have hne : grp s p.2.1 ≠ [] := fun e => by rw [e] at hh; cases hh
      cases hv : mget gs p.2.1 with
      | none => exact absurd (h2 _ hv) hne
      | some v =>
        refine ⟨(p.2.1, v), mget_some hv, ?_⟩
        have := hd0_mem hne
        rw [hh] at this
        exact (Option.some.inj this).symm

set_option maxHeartbeats 1600000 in
theorem laneHeads_any (w : World) (ok : Nat → Prop) (lb T : Nat) (s : List En) (h : LnAt w ok lb s T) (hT : T ≤ 1000000) :
    Calls Try.prog 21 #[.pointer (some ⟨lb, 0, none⟩)] w fun e w' => ∃ A c, e = .returned (.slice A (lHeads s).length c) ∧ (Kd.int .i64).R 3 w' w.heap.size (fun _ => True) (.slice A (lHeads s).length c) ((lHeads s).map (·.1)) ∧ Below w.heap.size w w' := by
  obtain ⟨ma, mg, turn, gs, hV, hO, hT'⟩ := h
  have hs : s.length ≤ 1000000 := by omega
  have hgl : gs.length ≤ 1000000 := by omega
  obtain ⟨t0, t1, t2, hlt⟩ := hV.cells
  have HG := Lib.hid hV.gm
  have HROW := Lib.hid hV.row
  have HGONE := Lib.hid hV.gone
  have HIDS := Lib.hid hO.ids
  have H := Lib.hid (show LnAt w (fun k => ok k ∧ k < w.heap.size) lb s T from LnAt.mono ⟨ma, mg, turn, gs, hV, hO, hT'⟩ (fun k hk hl => ⟨hk, hl⟩))
  have hmgl := hV.gm.lt
  clear hV hO hT'
  go_enter Try.func21, Try.ntmps21
  go_wp2_with (refine wpList_range_at (K := KG) (enc := _root_.id) HG.out (by rfl) (.tmp 9) 52 41 rfl under_groups rfl ?_; intro w2 hR2 hB2 hz2)
  have HR2 := Lib.hid hR2
  have HB2 := Lib.hid hB2
  clear hR2 hB2 hz2 t0 t1 t2
  go_frame
  go_loopg [3, 5] gs.length (fun gn u3 u5 wr => ∃ done todo, todo.length = gn ∧ (done ++ todo).Perm gs ∧ RangeAt KG _root_.id wr mg w.heap.size gs todo ∧ (Kd.int .i64).R 3 wr w.heap.size (fun k => k ≠ w.heap.size) u3 (done.map (fun p => hd0 s p.1)) ∧ Below w.heap.size w wr)
  case atStart => exact ⟨[], gs, rfl, List.Perm.refl _, HR2.out, Kd.R_nil _ _ _ _ _, HB2.out⟩
  case round =>
    obtain ⟨done, todo, hgn, hperm, hra, hR, hB⟩ := hrel
    have HP := Lib.hid hperm
    have HRA := Lib.hid hra
    have HR := Lib.hid hR
    have HB := Lib.hid hB
    have hdl : done.length + todo.length = gs.length := by rw [← List.length_append]; exact hperm.length_eq
    clear hra hperm hR hB
    go_wp2_with (refine wpList_next_at (K := KG) (enc := _root_.id) HRA.out (by rfl) (.tmp 10) rfl rfl ?_ ?_)
    · intro htodo
      have HTD := Lib.hid htodo
      have hdone : done.length ≤ 1000000 := by omega
      clear htodo
      obtain ⟨A, c, rfl⟩ := Kd.R_slice HR.out
      go_wp2_with fail
      have hp : (done.map (fun p => hd0 s p.1)).Perm ((lHeads s).map (·.1)) := by
        refine List.Perm.trans (List.Perm.map _ ?_) (heads_perm HIDS.out HG.out.nodup (fun g v hv => (HROW.out g v hv).2) HGONE.out)
        have := HP.out
        rw [HTD.out, List.append_nil] at this
        exact this
      have hl : done.length = (lHeads s).length := by
        have := hp.length_eq
        rwa [List.length_map, List.length_map] at this
      have hhs : (lHeads s).length ≤ 1000000 := by
        have := List.length_filter_le (fun p : En => decide ((grp s p.2.1).head? = some p.1)) s
        unfold lHeads
        omega
      have hR := HR.out
      rw [List.length_map, hl] at hR
      rw [hl]
      have HR' := Lib.hid hR
      have HPP := Lib.hid hp
      clear hR hp hl
      refine Calls.mono (laneSorted_any wr (fun k => ok k ∧ k < w.heap.size) (fun k => w.heap.size ≤ k) lb T s (lHeads s) (H.out.below HB.out) w.heap.size A (lHeads s).length c _ (Kd.R_mono (Kd.R_bound HR'.out) (fun k hk => hk.2.1)) (fun k h1 h2 => by omega) HPP.out List.filter_sublist hhs) ?_
      rintro e w3 ⟨rfl, hR3, _, hK3⟩
      have HR3 := Lib.hid hR3
      have HK3 := Lib.hid hK3
      clear hR3 hK3
      go_wp2_with fail
      go_ret
      exact ⟨A, c, rfl, Kd.R_mono HR3.out (fun _ _ => trivial), HK3.out.below HB.out HB.out.size (fun k _ h => h)⟩
    · intro g v todo' w4 hp hmem hgok hra4 hB4 hent
      have hv := mget_mem HG.out.nodup hmem
      have hrow := HROW.out g v hv
      obtain ⟨A, c, hvs, hlc, hC⟩ := Kd.R_reads hrow.1
      have hlow4 : Below w.heap.size w w4 := hB4.below HB.out (Nat.le_refl _)
      obtain ⟨ad, x, hA, hx, hc0⟩ := C_nth_scalar (Kd.C_below hC hlow4) 0 (List.length_pos_iff.2 hrow.2)
      have hx0 : hd0 s g = x := by
        unfold hd0
        cases hl : grp s g with
        | nil => exact absurd hl hrow.2
        | cons y l => rw [hl] at hx; simpa using hx
      subst hvs hA
      have hc0 : w4.cell? ad = some (.int .i64 x) := by simpa [Addr.add] using hc0
      have hpos : (0 : Int) < ((grp s g).length : Int) := by have := List.length_pos_iff.2 hrow.2; omega
      have hR4 : (Kd.int .i64).R 3 w4 w.heap.size (fun k => k ≠ w.heap.size) u3 (done.map (fun p => hd0 s p.1)) := Kd.R_step HR.out (fun k hk _ => hB4.2.2.2.2 k hk)
      have hrl := hra4.lt
      have hml : (done.map (fun p => hd0 s p.1)).length ≤ 1000000 := by rw [List.length_map]; omega
      have HPT := Lib.hid hp
      have HL4 := Lib.hid hlow4
      have HRA4 := Lib.hid hra4
      have HR4 := Lib.hid hR4
      have HX := Lib.hid hx0
      have hz4 := hlow4.size
      have hr4 := hrl.2.1
      clear hp hv hrow hlow4 hC hra4 hB4 hmem hx hR4 hx0 hrl
      go_wp2_with (at_builtin; refine Kd.R_append (Kd.int .i64) (w0 := w) w.heap.size rfl (.tmp 15) (.tmp 19) 41 3 (.int .i64 0) 8 rfl Try.underlying41 info_int rfl (by decide) (by omega) u3 (done.map (fun p => hd0 s p.1)) x [.int .i64 x] (fun k => k ≠ w.heap.size) (fun _ => False) rfl rfl rfl (fun _ hk => hk.elim) (fun k hk => by omega) HR4.out HL4.out hz4 (by omega) ?_; intro v5 w5 hR5 hB5 hg5 _)
      have HR5 := Lib.hid hR5
      have HB5 := Lib.hid hB5
      have HG5 := Lib.hid hg5
      clear hR5 hB5 hg5
      go_roundg todo'.length
      case measure =>
        have := HPT.out.length_eq
        rw [List.length_cons] at this
        omega
      case rel =>
        have hb5 : ∀ k, k < w4.heap.size → (k = mg ∨ k = w.heap.size) → w5.heap[k]? = w4.heap[k]? := fun k hk hkk => HG5.out.block k hk (fun e => by
          rcases hkk with rfl | rfl
          · have := Kd.R_base HR4.out _ e.symm
            omega
          · exact HR4.out.1 _ e.symm rfl)
        refine ⟨done ++ [(g, .slice (some ad) (grp s g).length c)], todo', rfl, ?_, HRA4.out.move (hb5 mg HRA4.out.lt.1 (.inl rfl)) (hb5 _ hr4 (.inr rfl)), ?_, HB5.out⟩
        · refine List.Perm.trans ?_ HP.out
          rw [List.append_assoc]
          exact List.Perm.append_left _ HPT.out.symm
        · rw [List.map_append, List.map_singleton, show hd0 s (g, (Value.slice (some ad) (grp s g).length c)).1 = x from HX.out]
          exact HR5.out
end Go.Proofs.Ytdcifghhamondaa
