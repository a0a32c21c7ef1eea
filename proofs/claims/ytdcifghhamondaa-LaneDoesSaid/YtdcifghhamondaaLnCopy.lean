/- lane.Lanes.Copy. -/
import Derived.Test.YtdcifghhamondaaLnAdd
import Derived.Test.YtdcifghhamondaaLnClone
import Derived.Test.YtdcifghhamondaaLnMapClone
import Derived.Deep.RegionHeld3
import Derived.Deep.DeepCutAuto
import Derived.Deep.LoopGhost
namespace Go.Proofs.Ytdcifghhamondaa
open Go.RowKit Go.Maps Go.Proofs.YtdcifghhamondaaW.PrintWords

structure CpAt (w wr : World) (ob ma' mg' r : Nat) (turn : Int) (s : List En) (gs todo ps : List (ByteArray × Value)) : Prop where
  hd : wr.heap[ob]? = some (.cells #[.int .i64 turn, .map (some ma'), .map (some mg')] 54 (0, 0))
  at_ : MapAt KI encP wr ma' s
  gm : MapAt KG id wr mg' ps
  low : Below w.heap.size w wr
  ob0 : w.heap.size ≤ ob
  ma0 : w.heap.size ≤ ma'
  mg0 : w.heap.size ≤ mg'
  ne : ma' ≠ mg'
  neo : r ≠ ob
  nea : r ≠ ma'
  neg : r ≠ mg'
  keys : ∀ g, (mget ps g).isSome = ((mget gs g).isSome && !(mget todo g).isSome)
  row : ∀ g v, mget ps g = some v → (Kd.int .i64).R 3 wr w.heap.size (fun k => k ≠ ob ∧ k ≠ ma' ∧ k ≠ mg' ∧ k ≠ r) v (grp s g) ∧ grp s g ≠ []
  apart : ∀ g g' v v', g ≠ g' → mget ps g = some v → mget ps g' = some v' → v.ownBlock ≠ v'.ownBlock
  len : ps.length + todo.length = gs.length
theorem CpAt.done {w wr : World} {ob ma' mg' r : Nat} {turn : Int} {s : List En} {gs ps : List (ByteArray × Value)} (h : CpAt w wr ob ma' mg' r turn s gs [] ps) (hg : ∀ g, mget gs g = none → grp s g = []) : LnV wr (fun k => w.heap.size ≤ k) ob ma' mg' turn s ps where
  hd := h.hd
  at_ := h.at_
  gm := h.gm
  row := fun g v hv => ⟨Kd.R_lower (Kd.R_mono (Kd.R_bound (h.row g v hv).1) (fun k hk => ⟨hk.2.1, hk.1.1, hk.1.2.1, hk.1.2.2.1⟩)) (Nat.zero_le _), (h.row g v hv).2⟩
  gone := fun g hn => hg g (by
    have := h.keys g
    rw [hn] at this
    simpa [mget] using this.symm)
  apart := h.apart
  oklb := h.ob0
  okma := h.ma0
  okmg := h.mg0
  ne := h.ne
theorem todo_parts {todo todo' : List (ByteArray × Value)} {g : ByteArray} {v : Value} (hn : (todo.map (·.1)).Nodup) (hp : todo.Perm ((g, v) :: todo')) : (∀ g', g' ≠ g → mget todo g' = mget todo' g') ∧ mget todo' g = none ∧ mget todo g = some v ∧ todo.length = todo'.length + 1 := by
  have hn2 := (hp.map (·.1)).nodup_iff.1 hn
  rw [List.map_cons, List.nodup_cons] at hn2
  refine ⟨fun g' hne => ?_, ?_, ?_, by rw [hp.length_eq]; rfl⟩
  · rw [← mget_perm hn hp g', mget_cons, if_neg (fun e => hne e.symm)]
  · exact mget_none.2 (fun p hp' e => hn2.1 (by have := List.mem_map_of_mem (f := (·.1)) hp'; rw [← e]; exact this))
  · rw [← mget_perm hn hp g, mget_cons, if_pos rfl]
theorem CpAt.step {w wr w5 w6 : World} {ob ma' mg' r : Nat} {turn : Int} {s : List En} {gs todo todo' ps : List (ByteArray × Value)} {g : ByteArray} {v v' : Value} (h : CpAt w wr ob ma' mg' r turn s gs todo ps) (hn : (todo.map (·.1)).Nodup) (hp : todo.Perm ((g, v) :: todo')) (hv : mget gs g = some v) (hgne : grp s g ≠ [])
    {w4 : World} (hB4 : ∀ k, k < wr.heap.size → k ≠ r → w4.heap[k]? = wr.heap[k]?) (hz4 : wr.heap.size ≤ w4.heap.size) (hlow4 : Below w.heap.size w w4) (hR5 : (Kd.int .i64).R 3 w5 w4.heap.size (fun _ => True) v' (grp s g)) (hB5 : Below w4.heap.size w4 w5) (hM6 : MapAt KG id w6 mg' (mput ps g v')) (hB6 : ButB w5 w6 mg') (hrl : r < wr.heap.size) : CpAt w w6 ob ma' mg' r turn s gs todo' (mput ps g v') := by
  obtain ⟨t1, t2, t3, t4⟩ := todo_parts hn hp
  have hob := blk_lt h.hd
  have hma := h.at_.lt
  have hmg := h.gm.lt
  have hps : mget ps g = none := by
    have := h.keys g
    rw [hv, t3] at this
    simpa using this
  have hk46 : ∀ k, k < wr.heap.size → k ≠ r → k ≠ mg' → w6.heap[k]? = wr.heap[k]? := fun k hk h1 h2 => (hB6.2.2.2.2 k h2).trans ((hB5.block k (by omega)).trans (hB4 k hk h1))
  have hnew : ∀ k, v'.ownBlock = some k → w4.heap.size ≤ k := fun k hk => Kd.R_base hR5 k hk
  refine ⟨?_, ?_, hM6, ?_, h.ob0, h.ma0, h.mg0, h.ne, h.neo, h.nea, h.neg, fun g' => ?_, fun g' u hu => ?_, fun g1 g2 u1 u2 hne h1 h2 => ?_, ?_⟩
  · rw [hk46 ob hob (Ne.symm h.neo) (fun e => h.gm.ne_cells h.hd e.symm)]
    exact h.hd
  · exact h.at_.move (hk46 ma' hma (Ne.symm h.nea) h.ne)
  · exact hB6.below (hlow4.trans (hB5.mono hlow4.size)) h.mg0
  · by_cases e : g' = g
    · subst e
      rw [mget_put_same, hv, t2]
      rfl
    · rw [mget_put_other ps v' e, h.keys g', t1 g' e]
  · by_cases e : g' = g
    · subst e
      rw [mget_put_same] at hu
      obtain rfl := Option.some.inj hu
      refine ⟨Kd.R_lower (Kd.R_mono (Kd.R_step (Kd.R_bound hR5) (fun k hk _ => hB6.2.2.2.2 k (by have := hk.2.1; omega))) (fun k hk => by have := hk.2.1; exact ⟨by omega, by omega, by omega, by omega⟩)) (by have := hlow4.size; omega), hgne⟩
    · rw [mget_put_other ps v' e] at hu
      obtain ⟨hR, hne⟩ := h.row g' u hu
      exact ⟨Kd.R_mono (Kd.R_step (Kd.R_bound hR) (fun k hk _ => hk46 k hk.2.2.1 hk.1.2.2.2 hk.1.2.2.1)) (fun k hk => hk.1), hne⟩
  · have hold : ∀ g' u, mget ps g' = some u → u.ownBlock ≠ v'.ownBlock := fun g' u hu e => by
      obtain ⟨k, hk, hkl, _⟩ := row_own (h.row g' u hu).1 (h.row g' u hu).2
      rw [hk] at e
      have := hnew k e.symm
      omega
    by_cases e1 : g1 = g
    · subst e1
      rw [mget_put_same] at h1
      obtain rfl := Option.some.inj h1
      rw [mget_put_other ps v' (Ne.symm hne)] at h2
      exact Ne.symm (hold g2 u2 h2)
    · rw [mget_put_other ps v' e1] at h1
      by_cases e2 : g2 = g
      · subst e2
        rw [mget_put_same] at h2
        obtain rfl := Option.some.inj h2
        exact hold g1 u1 h1
      · rw [mget_put_other ps v' e2] at h2
        exact h.apart g1 g2 u1 u2 hne h1 h2
  · rw [mput_length h.gm.nodup, hps]
    have := h.len
    simp
    omega

theorem cpBegin {w w2 : World} {cm cg : Nat} {s : List En} (n : Nat) (hn : n = w2.heap.size) (turn : Int) (hM : MapAt KI encP w2 cm s) (hG : MapAt KG id w2 cg []) (hB : Below w.heap.size w w2) (h1 : w.heap.size ≤ cm) (h2 : w.heap.size ≤ cg) (h3 : cm ≠ cg) :
    ∃ ob ma' mg', (Value.pointer (some ⟨n, 0, none⟩)) = .pointer (some ⟨ob, 0, none⟩) ∧ (w2.alloc (.cells #[.int .i64 turn, .map (some cm), .map (some cg)] 54)).heap[ob]? = some (.cells #[.int .i64 turn, .map (some ma'), .map (some mg')] 54 (0, 0)) ∧ MapAt KI encP (w2.alloc (.cells #[.int .i64 turn, .map (some cm), .map (some cg)] 54)) ma' s ∧ MapAt KG id (w2.alloc (.cells #[.int .i64 turn, .map (some cm), .map (some cg)] 54)) mg' [] ∧ Below w.heap.size w (w2.alloc (.cells #[.int .i64 turn, .map (some cm), .map (some cg)] 54)) ∧ w.heap.size ≤ ob ∧ w.heap.size ≤ ma' ∧ w.heap.size ≤ mg' ∧ ma' ≠ mg' :=
  ⟨n, cm, cg, rfl, by rw [hn]; exact heap_alloc_new w2 _, hM.below (below_alloc (Below.refl _ _) _), hG.below (below_alloc (Below.refl _ _) _), below_alloc hB _, by rw [hn]; exact hB.size, h1, h2, h3⟩

set_option maxHeartbeats 1600000 in
theorem laneCopy_v (w : World) (ok : Nat → Prop) (lb ma mg : Nat) (turn : Int) (s : List En) (gs : List (ByteArray × Value)) (h : LnV w ok lb ma mg turn s gs) (hs : s.length ≤ 1000000) (hgl : gs.length ≤ 1000000) :
    Calls Try.prog 22 #[.pointer (some ⟨lb, 0, none⟩)] w fun e w' => ∃ cb ma' mg' ps, e = .returned (.pointer (some ⟨cb, 0, none⟩)) ∧ LnV w' (fun k => w.heap.size ≤ k) cb ma' mg' turn s ps ∧ ps.length = gs.length ∧ Below w.heap.size w w' := by
  have hmm := @run_makeMap Try.prog
  obtain ⟨t0, t1, t2, hlt⟩ := h.cells
  have H := Lib.hid h
  clear h
  go_enter Try.func22, Try.ntmps22
  go_upto_region 1 with (fail)
  go_cut [3] (fun p wx => ∃ ob ma' mg', p = .pointer (some ⟨ob, 0, none⟩) ∧ wx.heap[ob]? = some (.cells #[.int .i64 turn, .map (some ma'), .map (some mg')] 54 (0, 0)) ∧ MapAt KI encP wx ma' s ∧ MapAt KG _root_.id wx mg' [] ∧ Below w.heap.size w wx ∧ w.heap.size ≤ ob ∧ w.heap.size ≤ ma' ∧ w.heap.size ≤ mg' ∧ ma' ≠ mg')
  case first =>
    go_region_held3 (fun w' => w'.cell? ⟨lb, 0, none⟩ = some (.int .i64 turn) ∧ w'.cell? ⟨lb, 1, none⟩ = some (.map (some ma))) (first | go_keep | (go_split_ands; exact ⟨cell_later hB (by assumption), cell_later hB (by assumption)⟩)) (first | (go_at_call 31; refine Calls.mono (mapsCloneP_at KI encP _ ma s (by first | exact H.out.at_.below (below_drew (Below.refl _ _)) | exact (H.out.at_.below (below_drew (Below.refl _ _))).below (below_alloc (Below.refl _ _) _) | exact (H.out.at_.below (below_alloc (Below.refl _ _) _)).below (below_drew (Below.refl _ _)))) ?_; rintro e w1 ⟨cm, rfl, hM, hcm, hB⟩))
    all_goals
      go_wp2_with fail
      go_meet
      case rel =>
        first
          | exact cpBegin _ (by simp) turn (hM.below (below_alloc (Below.refl _ _) _)) (MapAt.made KG _root_.id w1) (below_alloc (below_undrew hB) _) (show w.heap.size ≤ cm from hcm) (below_undrew hB).size (by have := hM.lt; omega)
          | (have hg := (MapAt.made KG (_root_.id : Value → Value) w).below (w' := w1) (by exact below_undrew hB)
             have h9 : (w.alloc (Obj.map #[] 0)).heap.size ≤ cm := hcm
             simp at h9
             exact cpBegin _ rfl turn hM hg ((below_alloc (Below.refl _ _) _).trans (Below.mono (below_undrew hB) (by simp))) (by omega) (Nat.le_refl _) (by omega))
  case rest =>
    obtain ⟨ob, ma', mg', rfl, hob, hma, hmg, hlow, h1, h2, h3, h4⟩ := hcut
    have HRG := Lib.hid (H.out.gm.below hlow)
    have p2 := pw_cell_below hlow t2
    have HOB := Lib.hid hob
    have HMA := Lib.hid hma
    have HMG := Lib.hid hmg
    have HLOW := Lib.hid hlow
    clear hob hma hmg hlow t0 t1 t2
    go_wp2_with (refine wpList_range_at (K := KG) (enc := _root_.id) HRG.out (by rfl) (.tmp 21) 52 41 rfl under_groups rfl ?_; intro w2 hR2 hB2 hz2)
    have hob2 := (hB2.block ob (blk_lt HOB.out)).trans HOB.out
    have hcp : CpAt w w2 ob ma' mg' wc.heap.size turn s gs gs [] := {
      hd := hob2
      at_ := HMA.out.below hB2
      gm := HMG.out.below hB2
      low := HLOW.out.trans (hB2.mono HLOW.out.size)
      ob0 := h1
      ma0 := h2
      mg0 := h3
      ne := h4
      neo := by have := blk_lt HOB.out; omega
      nea := by have := HMA.out.lt; omega
      neg := by have := HMG.out.lt; omega
      keys := fun g => by cases (mget gs g) <;> rfl
      row := fun g v hv => by simp [mget] at hv
      apart := fun g g' v v' _ hv => by simp [mget] at hv
      len := by simp }
    have HCP := Lib.hid hcp
    have HR2 := Lib.hid hR2
    clear hob2 hcp hR2 hB2 hz2 p2
    have hrl : w.heap.size ≤ wc.heap.size := HLOW.out.size
    generalize wc.heap.size = r at *
    have HRL := Lib.hid hrl
    clear hrl
    go_frame
    go_loopg [4] gs.length (fun gn u4 wr => ∃ todo ps, todo.length = gn ∧ CpAt w wr ob ma' mg' r turn s gs todo ps ∧ RangeAt KG _root_.id wr mg r gs todo)
    case atStart => exact ⟨gs, [], rfl, HCP.out, HR2.out⟩
    case round =>
      obtain ⟨todo, ps, hgn, hcp, hra⟩ := hrel
      have HCP := Lib.hid hcp
      have HRA := Lib.hid hra
      clear hcp hra
      go_wp2_with (refine wpList_next_at (K := KG) (enc := _root_.id) HRA.out (by rfl) (.tmp 22) rfl rfl ?_ ?_)
      · intro htodo
        have HT := Lib.hid htodo
        clear htodo
        go_wp2_with fail
        go_ret
        have hc := HCP.out
        rw [HT.out] at hc
        exact ⟨ob, ma', mg', ps, rfl, hc.done H.out.gone, by have := hc.len; simpa using this, hc.low⟩
      · intro g v todo' w4 hp hmem hgok hra4 hB4 hent
        have hv := mget_mem H.out.gm.nodup hmem
        have hrow := H.out.row g v hv
        obtain ⟨A, c, hvs, hlc, hC⟩ := Kd.R_reads hrow.1
        have hk4 : ∀ k, k < wr.heap.size → k ≠ r → w4.heap[k]? = wr.heap[k]? := fun k _ h => hB4.2.2.2.2 k h
        have hlow4 : Below w.heap.size w w4 := hB4.below HCP.out.low HRL
        have hC4 : (Kd.int .i64).C w4 A (grp s g).length (grp s g) := Kd.C_below hC hlow4
        have hgl4 := grp_len s g
        have q2 := blk_cell ((hk4 ob (blk_lt HCP.out.hd) (Ne.symm HCP.out.neo)).trans HCP.out.hd) 2
        simp only [List.getElem?_toArray, List.getElem?_cons_zero, List.getElem?_cons_succ] at q2
        have hG4 : MapAt KG _root_.id w4 mg' ps := HCP.out.gm.move (hk4 mg' HCP.out.gm.lt (Ne.symm HCP.out.neg))
        have hpl : ps.length < maxLen := by have := HCP.out.len; simp [maxLen]; omega
        subst hvs
        have hent : (Instr.entry (.pointer (some ⟨r, 0, none⟩))).run Try.prog w4 = .ok (.tuple #[.string g, .slice A (grp s g).length c]) w4 := hent
        have hgok : g.size ≤ maxLen := hgok
        have hobl := blk_lt HCP.out.hd
        have hz4 : w4.heap.size = wr.heap.size := hB4.2.2.2.1
        have HP := Lib.hid hp
        have HV := Lib.hid hv
        have HNE := Lib.hid hrow.2
        have HK4 := Lib.hid hk4
        have HL4 := Lib.hid hlow4
        have HC4 := Lib.hid hC4
        have HG4 := Lib.hid hG4
        have HRA4 := Lib.hid hra4
        have HZ4 := Lib.hid hz4
        have hcl : ∀ W, Below w4.heap.size w4 W → Calls Try.prog 30 #[.slice A (grp s g).length c] W fun e w' => ∃ A' c', e = .returned (.slice A' (grp s g).length c') ∧ (Kd.int .i64).R 3 w' W.heap.size (fun _ => True) (.slice A' (grp s g).length c') (grp s g) ∧ Below W.heap.size W w' := fun W hW => by
          exact clone_int A c (grp s g) W (Kd.C_below HC4.out hW) hlc (by omega)
        have HCL := Lib.hid hcl
        clear hcl
        clear hp hv hrow hk4 hlow4 hC hC4 hG4 hra4 hB4 hz4 hmem hlc
        go_wp2_with fail
        go_region_held3 (fun w' => w'.cell? ⟨ob, 2, none⟩ = some (.map (some mg'))) (first | exact q2 | exact r2 | exact s2 | go_keep) (first | (go_at_call 30; refine Calls.mono (HCL.out _ (by exact below_drew (Below.refl _ _))) ?_; rintro e w5 ⟨A', c', rfl, hR5, hB5⟩; have r2 := pw_cell_below (below_undrew hB5) q2) | (refine upon_put (K := KG) (enc := _root_.id) (show MapAt KG _root_.id w5 mg' ps from HG4.out.below (below_undrew hB5)) under_groups hpl g (.slice A' (grp s g).length c') rfl rfl hgok ?_; intro w6 hM6 hB6; have s2 := hB6.cell r2 (show ob ≠ mg' from fun e => HCP.out.gm.ne_cells HCP.out.hd e.symm)))
        all_goals
          have HM6 := Lib.hid hM6
          have HB6 := Lib.hid hB6
          have HR5 := Lib.hid hR5
          have HB5 := Lib.hid (below_undrew hB5)
          clear hM6 hB6 hR5 hB5
          go_wp2_with fail
          go_roundg todo'.length
          case measure =>
            have := HP.out.length_eq
            rw [List.length_cons] at this
            omega
          case rel =>
            have hra := HRA.out
            obtain ⟨hl1, hl2, _⟩ := HRA4.out.lt
            have hmgl := H.out.lt.2.2
            have hmg0 := HCP.out.mg0
            refine ⟨todo', mput ps g (.slice A' (grp s g).length c'), rfl, HCP.out.step hra.2.1 HP.out HV.out HNE.out HK4.out (by rw [HZ4.out]; exact Nat.le_refl _) HL4.out HR5.out HB5.out HM6.out HB6.out (by rw [← HZ4.out]; exact hl2), HRA4.out.move ?_ ?_⟩
            · exact (HB6.out.2.2.2.2 mg (by omega)).trans (HB5.out.block mg hl1)
            · exact (HB6.out.2.2.2.2 r HCP.out.neg).trans (HB5.out.block r hl2)

theorem laneCopy_any (w : World) (ok : Nat → Prop) (lb T : Nat) (s : List En) (h : LnAt w ok lb s T) (hT : T ≤ 1000000) :
    Calls Try.prog 22 #[.pointer (some ⟨lb, 0, none⟩)] w fun e w' => ∃ cb, e = .returned (.pointer (some ⟨cb, 0, none⟩)) ∧ LnAt w' (fun k => w.heap.size ≤ k) cb s T ∧ Below w.heap.size w w' := by
  obtain ⟨ma, mg, turn, gs, hV, hO, h0, h1, h2, h3⟩ := h
  refine Calls.mono (laneCopy_v w ok lb ma mg turn s gs hV (by omega) (by omega)) ?_
  rintro e w' ⟨cb, ma', mg', ps, rfl, hV', hl, hB⟩
  exact ⟨cb, rfl, ⟨ma', mg', turn, ps, hV', hO, h0, h1, by omega, h3⟩, hB⟩
end Go.Proofs.Ytdcifghhamondaa
