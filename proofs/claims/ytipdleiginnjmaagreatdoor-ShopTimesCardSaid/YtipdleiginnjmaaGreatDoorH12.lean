/- Put together: (*Shop).tick. -/
import Derived.Test.YtipdleiginnjmaaGreatDoorH11
import Derived.Test.YtipdleiginnjmaaGreatDoorH8
import Derived.Test.YtipdleiginnjmaaGreatDoorWLast
set_option linter.unusedVariables false
set_option linter.unusedSimpArgs false
set_option linter.unusedVariables false
set_option linter.unusedSimpArgs false
namespace Go.Proofs.YtipdleiginnjmaaGreatDoor
open Go.RowKit Go.Maps Go.Proofs.YtipdleiginnjmaaGreatDoorW.PrintWords Go.Proofs.YtipdleiginnjmaaGreatDoorW.PrintLast
/-! the law's part -/
theorem tck_a (σ : Qs) (n : Int) : (qTck σ n).1.a = σ.a := by unfold qTck; split <;> rfl
theorem tck_len (σ : Qs) (n : Int) : (qTck σ n).2.1.length ≤ σ.l.length ∧ (qTck σ n).2.2.length ≤ σ.l.length := by
  unfold qTck
  split
  · refine ⟨?_, ?_⟩
    · show ((qDead σ n).map Msg.lt).length ≤ _
      rw [List.length_map]; exact List.length_filter_le _ _
    · show (qGone σ n).length ≤ _
      unfold qGone
      rw [List.length_map]; exact List.length_filter_le _ _
  · exact ⟨Nat.zero_le _, Nat.zero_le _⟩
theorem tck_text {σ : Qs} {T : Nat} (h : QInv σ T) (n : Int) : ∀ x ∈ (qTck σ n).2.1, x.2.2.2.size ≤ 256 := by
  unfold qTck
  split
  · intro x hx
    obtain ⟨m, hm, rfl⟩ := List.mem_map.1 (show x ∈ (qDead σ n).map Msg.lt from hx)
    exact (h.text m (List.mem_filter.1 hm).1).2
  · intro x hx
    exact absurd hx (List.not_mem_nil)
theorem right_dead {a : QA} (h : qRight a = true) : a.dead.size ≤ 64 := by
  unfold qRight at h
  have := of_decide_eq_true h
  omega
theorem moves_ok {l : List Nq} {T : Nat} (h : ∀ p ∈ l, QInv p.2 T) (n : Int) : ∀ v ∈ tkMoves l n, v.1.size ≤ 64 ∧ v.2.2.2.2.size ≤ 256 := by
  intro v hv
  unfold tkMoves at hv
  obtain ⟨p, hp, hv⟩ := List.mem_flatMap.1 hv
  obtain ⟨x, hx, rfl⟩ := List.mem_map.1 hv
  exact ⟨right_dead (h p hp).right, tck_text (h p hp) n x hx⟩
theorem moves_snoc (l : List Nq) (p : Nq) (n : Int) : tkMoves (l ++ [p]) n = tkMoves l n ++ (qTck p.2 n).2.1.map (fun x => (p.2.a.dead, x)) := by unfold tkMoves; rw [List.flatMap_append]; simp
theorem past_snoc (l : List Nq) (p : Nq) (n : Int) : tkPast (l ++ [p]) n = tkPast l n + (qTck p.2 n).2.2.length := by unfold tkPast; rw [List.map_append, List.sum_append]; simp
theorem moves_len {l : List Nq} {T : Nat} (h : ∀ p ∈ l, QInv p.2 T) (n : Int) : (tkMoves l n).length ≤ l.length * 1024 ∧ 0 ≤ tkPast l n ∧ tkPast l n ≤ l.length * 1024 := by
  induction l with
  | nil => exact ⟨Nat.zero_le _, by unfold tkPast; simp, by unfold tkPast; simp⟩
  | cons p l ih =>
    obtain ⟨h1, h2, h3⟩ := ih (fun q hq => h q (List.mem_cons_of_mem _ hq))
    have h4 := tck_len p.2 n
    have h5 := (h p List.mem_cons_self).len
    have e1 : (tkMoves (p :: l) n).length = (qTck p.2 n).2.1.length + (tkMoves l n).length := by unfold tkMoves; rw [List.flatMap_cons, List.length_append, List.length_map]
    have e2 : tkPast (p :: l) n = (qTck p.2 n).2.2.length + tkPast l n := by unfold tkPast; rw [List.map_cons, List.sum_cons]
    rw [e1, e2, List.length_cons]
    refine ⟨by omega, by omega, by omega⟩
theorem moves_step (l : List Nq) (v : Mv) (vs : List Mv) : shMoves l (v :: vs) = ((shMoves (shMove l v) vs).1, (if shGoes l v then 1 else 0) + (shMoves (shMove l v) vs).2) := rfl
def tqs (q : List Qp) (n : Int) : List Qp := q.map (fun p => (p.1, (p.2.1, (qTck p.2.2 n).1)))
theorem tqs_nb (q : List Qp) (n : Int) : nb (tqs q n) = nb q := by unfold nb tqs; rw [List.map_map]; rfl
theorem tqs_lq (q : List Qp) (n : Int) : lq (tqs q n) = tkAll (lq q) n := by unfold lq tqs tkAll; rw [List.map_map, List.map_map]; rfl
theorem tqs_snoc (q : List Qp) (p : Qp) (n : Int) : tqs (q ++ [p]) n = tqs q n ++ [(p.1, (p.2.1, (qTck p.2.2 n).1))] := by unfold tqs; rw [List.map_append]; rfl
theorem lq_snoc (q : List Qp) (p : Qp) : lq (q ++ [p]) = lq q ++ [(p.1, p.2.2)] := by unfold lq; rw [List.map_append]; rfl
/-! rows -/
def KMv : Kd Mv := Kd.pair Kd.string KLt
theorem KMv_of (w : World) (base : Nat) (ok : Nat → Prop) (v : Mv) : KMv.M w base ok v [.string v.1, .int .i64 v.2.1, .int .i64 v.2.2.1, .string v.2.2.2.1, .string v.2.2.2.2] := ⟨[_], [_, _, _, _], rfl, rfl, KLt_of w base ok v.2⟩
theorem info_mv : (Tryz.prog.info? 201).map (fun i => (i.zero, i.size, i.bytes)) = some (some (.agg #[.string ⟨#[]⟩, .int .i64 0, .int .i64 0, .string ⟨#[]⟩, .string ⟨#[]⟩]), 5, 64) := by kernel_rfl
abbrev AMv (v : Value) (l : List Mv) : Asn := ARow KMv 201 v l
theorem C_nth_ltS {w : World} {A : Option Addr} {n : Nat} {l : List Lt} (h : KLt.C w A n l) (k : Nat) (hk : k < n) :
    ∃ ad x, A = some ad ∧ l[k]? = some x ∧ w.cell? (ad.add (k * 4)) = some (.int .i64 x.1) ∧ w.cell? ⟨(ad.add (k * 4)).block, (ad.add (k * 4)).off + 1, none⟩ = some (.int .i64 x.2.1) ∧ w.cell? ⟨(ad.add (k * 4)).block, (ad.add (k * 4)).off + 2, none⟩ = some (.string x.2.2.1) ∧ w.cell? ⟨(ad.add (k * 4)).block, (ad.add (k * 4)).off + 3, none⟩ = some (.string x.2.2.2) := by
  obtain ⟨ad, x, c, hA, hx, _, ⟨c0, d0, rfl, h0, c1, d1, rfl, h1, c2, d2, rfl, h2, h3'⟩, h3⟩ := C_nth h k hk
  have h0 : c0 = [.int .i64 x.1] := h0
  have h1 : c1 = [.int .i64 x.2.1] := h1
  have h2 : c2 = [.string x.2.2.1] := h2
  have h4 : d2 = [.string x.2.2.2] := h3'
  subst h0 h1 h2 h4
  refine ⟨ad, x, hA, hx, ?_, ?_, ?_, ?_⟩
  · have := h3 0 _ rfl; exact this
  · have := h3 1 _ rfl; rw [← add_field ad _ 1 (by omega)]; exact this
  · have := h3 2 _ rfl; rw [← add_field ad _ 2 (by omega)]; exact this
  · have := h3 3 _ rfl; rw [← add_field ad _ 3 (by omega)]; exact this
theorem C_nth_mv {w : World} {A : Option Addr} {n : Nat} {l : List Mv} (h : KMv.C w A n l) (k : Nat) (hk : k < n) :
    ∃ ad x, A = some ad ∧ l[k]? = some x ∧ w.cell? (ad.add (k * 5)) = some (.string x.1) ∧ w.cell? ⟨(ad.add (k * 5)).block, (ad.add (k * 5)).off + 1, none⟩ = some (.int .i64 x.2.1) ∧ w.cell? ⟨(ad.add (k * 5)).block, (ad.add (k * 5)).off + 2, none⟩ = some (.int .i64 x.2.2.1) ∧ w.cell? ⟨(ad.add (k * 5)).block, (ad.add (k * 5)).off + 3, none⟩ = some (.string x.2.2.2.1) ∧ w.cell? ⟨(ad.add (k * 5)).block, (ad.add (k * 5)).off + 4, none⟩ = some (.string x.2.2.2.2) := by
  obtain ⟨ad, x, c, hA, hx, _, ⟨cs, ds, rfl, hs, c0, d0, rfl, h0, c1, d1, rfl, h1, c2, d2, rfl, h2, h3'⟩, h3⟩ := C_nth h k hk
  have hs : cs = [.string x.1] := hs
  have h0 : c0 = [.int .i64 x.2.1] := h0
  have h1 : c1 = [.int .i64 x.2.2.1] := h1
  have h2 : c2 = [.string x.2.2.2.1] := h2
  have h4 : d2 = [.string x.2.2.2.2] := h3'
  subst hs h0 h1 h2 h4
  refine ⟨ad, x, hA, hx, ?_, ?_, ?_, ?_, ?_⟩
  · have := h3 0 _ rfl; exact this
  · have := h3 1 _ rfl; rw [← add_field ad _ 1 (by omega)]; exact this
  · have := h3 2 _ rfl; rw [← add_field ad _ 2 (by omega)]; exact this
  · have := h3 3 _ rfl; rw [← add_field ad _ 3 (by omega)]; exact this
  · have := h3 4 _ rfl; rw [← add_field ad _ 4 (by omega)]; exact this
theorem blkA4 {w : World} {g t : Nat} {x0 x1 x2 x3 : Value} (h : w.heap[g]? = some (.cells #[x0, x1, x2, x3] t (0, 0))) :
    w.cell? ⟨g, 0, none⟩ = some x0 ∧ w.cell? ⟨g, 1, none⟩ = some x1 ∧ w.cell? ⟨g, 2, none⟩ = some x2 ∧ w.cell? ⟨g, 3, none⟩ = some x3 := ⟨blk_cell h 0, blk_cell h 1, blk_cell h 2, blk_cell h 3⟩
theorem blkA5 {w : World} {g t : Nat} {x0 x1 x2 x3 x4 : Value} (h : w.heap[g]? = some (.cells #[x0, x1, x2, x3, x4] t (0, 0))) :
    w.cell? ⟨g, 0, none⟩ = some x0 ∧ w.cell? ⟨g, 1, none⟩ = some x1 ∧ w.cell? ⟨g, 2, none⟩ = some x2 ∧ w.cell? ⟨g, 3, none⟩ = some x3 ∧ w.cell? ⟨g, 4, none⟩ = some x4 := ⟨blk_cell h 0, blk_cell h 1, blk_cell h 2, blk_cell h 3, blk_cell h 4⟩
theorem lookQ1 {w : World} {mb : Nat} {ms : List (ByteArray × Nat)} (h : MapAt KG encB w mb ms) {k : ByteArray} (hk : k.size ≤ maxLen) {b : Nat} (hg : mget ms k = some b) :
    (Instr.lookup 90 (.map (some mb)) (.string k) false).run Tryz.prog w = .ok (.pointer (some ⟨b, 0, none⟩)) w := by
  have h1 := h.look1 under_qm (zero_qp w) (a := k) hk
  rw [hg] at h1
  exact h1
section
variable {w0 w : World} {Ps : List Asn} {sb mb lb T : Nat}
def TickE (e : Ending) (w0 w' : World) (sb mb lb : Nat) (now : Int) (q : List Qp) (n : Int) (T : Nat) (Ps : List Asn) : Prop :=
  ((n < now ∨ 1099511627776 < n) ∧ AnsE e (.fail 1) w0 w' (ABlk sb (.cells #[.int .i64 now, .map (some mb), .map (some lb)] 93 (0, 0)) :: AMg KG encB mb (nb q) :: AQs q T :: Ps)) ∨
  (¬ (n < now ∨ 1099511627776 < n) ∧ ∃ q', lq q' = (shMoves (tkAll (lq q) n) (tkMoves (lq q) n)).1 ∧ nb q' = nb q ∧
    AnsE e (.nums [(shMoves (tkAll (lq q) n) (tkMoves (lq q) n)).2, ((tkMoves (lq q) n).length : Int) - (shMoves (tkAll (lq q) n) (tkMoves (lq q) n)).2, tkPast (lq q) n]) w0 w' (ABlk sb (.cells #[.int .i64 n, .map (some mb), .map (some lb)] 93 (0, 0)) :: AMg KG encB mb (nb q) :: AQs q' (T + (tkMoves (lq q) n).length) :: Ps))
set_option maxHeartbeats 16000000 in
set_option maxRecDepth 100000 in
theorem Hp.shTick {now : Int} {q : List Qp} (h : Hp w0 w (ABlk sb (.cells #[.int .i64 now, .map (some mb), .map (some lb)] 93 (0, 0)) :: AMg KG encB mb (nb q) :: AQs q T :: Ps)) (hT : T + 16384 < 999999) (hE : ErrCell w0) (hri : Ris (nb q)) (hql : q.length ≤ 16) (hnm : ∀ p ∈ q, p.1.size ≤ 64) (hiv : ∀ p ∈ lq q, QInv p.2 T) (c : Cm) (vb : Value) :
    Calls Tryz.prog 68 #[.pointer (some ⟨sb, 0, none⟩), .agg (c.cells vb)] w fun e w' => TickE e w0 w' sb mb lb now q c.n T Ps := by
  have HE := Lib.hid hE
  have HRI := Lib.hid hri
  have HNM := Lib.hid hnm
  have HIV := Lib.hid hiv
  have hndq : (q.map (·.1)).Nodup := by rw [← nb_keys]; exact hri.keys
  have HND := Lib.hid hndq
  have hz : (w.alloc (.cells (c.cells vb) 32)).heap.size = w.heap.size + 1 := by simp
  have hp := (h.alloc (.cells (c.cells vb) 32)).alloc (.cells #[.int .i64 0, .slice none 0 0, .slice none 0 0] 36)
  rw [hz] at hp
  obtain ⟨cb, hcb⟩ : ∃ k, k = w.heap.size := ⟨_, rfl⟩
  obtain ⟨rb, hrb⟩ : ∃ k, k = w.heap.size + 1 := ⟨_, rfl⟩
  rw [← hrb, ← hcb] at hp
  have HP0 := Lib.hid hp
  clear hE hz h hri hnm hiv hndq
  go_enter Tryz.func68, Tryz.ntmps68
  go_upto_region 1 with (fail)
  change Code.wp _ _ _ _ ((w.alloc (.cells (c.cells vb) 32)).alloc (.cells #[.int .i64 0, .slice none 0 0, .slice none 0 0] 36))
  generalize (w.alloc (.cells (c.cells vb) 32)).alloc (.cells #[.int .i64 0, .slice none 0 0, .slice none 0 0] 36) = W0 at *
  rw [← hrb, ← hcb]
  clear hrb hcb
  have g16 : W0.cell? ⟨cb, 16, none⟩ = some (.int .i64 c.n) := blk_cell hp.blk1 16
  have s0 : W0.cell? ⟨sb, 0, none⟩ = some (.int .i64 now) := blk_cell hp.blk2 0
  clear hp
  by_cases hbad : c.n < now ∨ 1099511627776 < c.n
  case pos =>
    have HBAD := Lib.hid hbad
    have hcase : c.n < now ∨ (¬ c.n < now ∧ 1099511627776 < c.n) := by omega
    clear hbad
    rcases hcase with i1 | ⟨i1, i2⟩
    all_goals
      go_quiet (fail)
      have HP1 := Lib.hid (HP0.out.below (pw_below_drewN (Below.refl _ _) nq))
      generalize W0.drewN nq = W1 at *
      have HF := Lib.hid (failed_any 1 _ (HE.out.below HP1.out.belowW))
      clear g16 s0
      go_wp2_with fail
      refine Calls.mono HF.out ?_
      rintro e w8 ⟨rfl, hB⟩
      have HP8 := Lib.hid (HP1.out.below hB)
      clear hB
      go_wp2_with ((with_reducible refine gate_store (t := 36) (p := 4) (v := .tmp 31) rfl ?_); refine wpList_store_row rfl 36 (.tmp 4) (.tmp 31) rfl rb #[.int .i64 1, .slice none 0 0, .slice none 0 0] rfl rfl 36 #[.int .i64 0, .slice none 0 0, .slice none 0 0] HP8.out.blk0 info_ansS rfl (by simp [Value.oneCell']) ?_)
      have HPZ := Lib.hid (HP8.out.setRowBlkS #[.int .i64 1, .slice none 0 0, .slice none 0 0])
      refine bodyPost_ret (results_cell_row rfl _ _ rb 36 #[.int .i64 1, .slice none 0 0, .slice none 0 0] (0, 0) _ rfl HPZ.out.blk0 Tryz.underlying36 rfl info_ansS) rfl ?_
      exact .inl ⟨HBAD.out, AnsE.bare 1 HPZ.out.tail.tail⟩
  case neg =>
  have HGOOD := Lib.hid hbad
  have i1 : ¬ c.n < now := by omega
  have i2 : ¬ 1099511627776 < c.n := by omega
  clear hbad
  go_quiet (fail)
  have HP1 := Lib.hid (HP0.out.below (pw_below_drewN (Below.refl _ _) nq)).up2
  generalize W0.drewN nq = W1 at *
  clear s0 g16
  obtain ⟨s0, s1, s2, sf⟩ := blkA3 HP1.out.blk0
  have HP2 := Lib.hid (HP1.out.setBlk 0 (.int .i64 c.n))
  simp only [List.setIfInBounds_toArray, List.set_cons_zero, List.set_cons_succ] at HP2
  have g16 : W1.cell? ⟨cb, 16, none⟩ = some (.int .i64 c.n) := blk_cell HP1.out.blk2 16
  go_upto_region 4 with (fail)
  clear s0 s1 s2 sf g16
  generalize W1.setCell ⟨sb, 0, none⟩ (.int .i64 c.n) = W2 at *
  have HP3 := Lib.hid (show Hp w0 W2 (ABlk sb (.cells #[.int .i64 c.n, .map (some mb), .map (some lb)] 93 (0, 0)) :: AMg KG encB mb (nb q) :: AQs q T :: ABlk rb (.cells #[.int .i64 0, .slice none 0 0, .slice none 0 0] 36 (0, 0)) :: ABlk cb (.cells (c.cells vb) 32 (0, 0)) :: Ps) from HP2.out.up4.up4.up2)
  have HNAM := Lib.hid (HP3.out.shNames HRI.out (by omega))
  obtain ⟨names, hnames⟩ : ∃ l, l = q.map (·.1) := ⟨_, rfl⟩
  rw [← hnames] at HNAM
  have hnl : names.length = q.length := by rw [hnames, List.length_map]
  have HNMS := Lib.hid hnames
  clear hnames
  go_wp2_with fail
  refine Calls.mono HNAM.out ?_
  rintro e w3 ⟨AN, nN, cN, rfl, hn, hP⟩
  have HNN := Lib.hid (hn.trans hnl)
  have hN16 : nN ≤ 16 := by omega
  have HP4 := Lib.hid ((hP.nilRowS KMv 201).swap)
  clear hn hnl hP
  go_wp2_with fail
  go_loopw [7, 8, 40] (fun pv u8 iv wr => ∃ (i : Nat), iv = .int .i64 i ∧ i ≤ nN ∧ pv = .int .i64 (tkPast (lq (q.take i)) c.n) ∧ Hp w0 wr (AStrs (.slice AN nN cN) names :: AMv u8 (tkMoves (lq (q.take i)) c.n) :: ABlk sb (.cells #[.int .i64 c.n, .map (some mb), .map (some lb)] 93 (0, 0)) :: AMg KG encB mb (nb q) :: AQs (tqs (q.take i) c.n ++ q.drop i) T :: ABlk rb (.cells #[.int .i64 0, .slice none 0 0, .slice none 0 0] 36 (0, 0)) :: ABlk cb (.cells (c.cells vb) 32 (0, 0)) :: Ps)) (fun _ _ iv _ => nN - (intOf iv).toNat)
  case atStart => exact ⟨0, rfl, Nat.zero_le _, rfl, HP4.out⟩
  case round =>
    obtain ⟨i, rfl, hi, rfl, hQ⟩ := hrel
    have HQ := Lib.hid hQ
    have hLi := moves_len (l := lq (q.take i)) (T := T) (fun p hp => HIV.out p (by
      unfold lq at hp ⊢
      obtain ⟨x, hx, rfl⟩ := List.mem_map.1 hp
      exact List.mem_map.2 ⟨x, List.mem_of_mem_take hx, rfl⟩)) c.n
    have hLq : (lq (q.take i)).length ≤ 16 := by unfold lq; rw [List.length_map, List.length_take]; omega
    obtain ⟨pa, hpa⟩ : ∃ x, x = tkPast (lq (q.take i)) c.n := ⟨_, rfl⟩
    obtain ⟨MB, hMB⟩ : ∃ x, x = tkMoves (lq (q.take i)) c.n := ⟨_, rfl⟩
    rw [← hpa, ← hMB] at hLi
    rw [← hMB] at HQ
    rw [← hpa]
    have HPA := Lib.hid hpa
    have HMB := Lib.hid hMB
    have HMLEN := Lib.hid (show MB.length ≤ 16384 by omega)
    have hpb : 0 ≤ pa ∧ pa ≤ 16384 := by omega
    clear hQ hpa hMB hLi hLq
    by_cases hin : i < nN
    case pos =>
      have k0 : (0 : Int) ≤ (i : Int) := by omega
      have k1 : (i : Int) < (nN : Int) := by omega
      obtain ⟨ad, nm, hA, hx, d0⟩ := C_nth_scalar (Kd.R_reads' HQ.out.head).2.2 i (by rw [← (Kd.R_reads' HQ.out.head).1]; exact hin)
      subst hA
      have hqi : ∃ b σ, q[i]? = some (nm, (b, σ)) := by
        rw [HNMS.out, List.getElem?_map] at hx
        obtain ⟨⟨a, b, σ⟩, h1, h2⟩ := Option.map_eq_some_iff.1 hx
        obtain rfl : a = nm := h2
        exact ⟨b, σ, h1⟩
      obtain ⟨b, σ, hqi⟩ := hqi
      have hmem : (nm, (b, σ)) ∈ q := List.mem_of_getElem? hqi
      have hnmz : nm.size ≤ maxLen := by have h1 : nm.size ≤ 64 := HNM.out _ hmem; simp [maxLen]; omega
      have hmg : mget (nb q) nm = some b := mget_mem (by rw [nb_keys]; exact HND.out) (p := (nm, b)) (by unfold nb; exact List.mem_map.2 ⟨_, hmem, rfl⟩)
      have hiv : QInv σ T := HIV.out (nm, σ) (by unfold lq; exact List.mem_map.2 ⟨_, hmem, rfl⟩)
      have HTK := Lib.hid (show q.take (i + 1) = q.take i ++ [(nm, (b, σ))] by rw [List.take_add_one, hqi]; rfl)
      have HDR := Lib.hid (show q.drop i = (nm, (b, σ)) :: q.drop (i + 1) by
        have hlt := (List.getElem?_eq_some_iff.1 hqi).1
        rw [List.drop_eq_getElem_cons hlt, (List.getElem?_eq_some_iff.1 hqi).2])
      have hL := tck_len σ c.n
      have hL1 := hiv.len
      have hLt := tck_text hiv c.n
      have HIVS := Lib.hid hiv
      have lk := lookQ1 HQ.out.up3.mgUse.1 hnmz hmg
      have g16 : wr.cell? ⟨cb, 16, none⟩ = some (.int .i64 c.n) := blk_cell HQ.out.tail.tail.tail.tail.tail.tail.blk0 16
      have s1 : wr.cell? ⟨sb, 1, none⟩ = some (.map (some mb)) := blk_cell HQ.out.blk2 1
      have HP5 := Lib.hid (show Hp w0 wr (AQu b σ T :: AQs (tqs (q.take i) c.n ++ q.drop (i + 1)) T :: AStrs (.slice (some ad) nN cN) names :: AMv u8 MB :: ABlk sb (.cells #[.int .i64 c.n, .map (some mb), .map (some lb)] 93 (0, 0)) :: AMg KG encB mb (nb q) :: ABlk rb (.cells #[.int .i64 0, .slice none 0 0, .slice none 0 0] 36 (0, 0)) :: ABlk cb (.cells (c.cells vb) 32 (0, 0)) :: Ps) from by
        have h1 := HQ.out.up4
        rw [HDR.out] at h1
        exact h1.qsPick)
      have HTICK := Lib.hid (HP5.out.quTck (show T ≤ 1000000 by omega) c.n)
      obtain ⟨dd, hdd⟩ : ∃ d, d = (qTck σ c.n).2.1 := ⟨_, rfl⟩
      obtain ⟨gg, hgg⟩ : ∃ d, d = (qTck σ c.n).2.2 := ⟨_, rfl⟩
      rw [← hdd, ← hgg] at HTICK hL
      have HDD := Lib.hid hdd
      have HGG := Lib.hid hgg
      clear hx hqi hmem hmg hiv hdd hgg hLt
      go_wp2_with fail
      refine Calls.mono HTICK.out ?_
      rintro e w4 ⟨A1, n1, c1, A2, n2, c2, hn1, hn2, rfl, hP⟩
      have hb1 : n1 ≤ 1024 := by omega
      have hb2 : n2 ≤ 1024 := by omega
      have HN1 := Lib.hid hn1
      have HN2 := Lib.hid hn2
      have HP6 := Lib.hid (show Hp w0 w4 (AMv u8 (MB ++ (dd.take 0).map (fun x => (σ.a.dead, x))) :: AQu b (qTck σ c.n).1 T :: ALt (.slice A1 n1 c1) dd :: AQs (tqs (q.take i) c.n ++ q.drop (i + 1)) T :: AStrs (.slice (some ad) nN cN) names :: ABlk sb (.cells #[.int .i64 c.n, .map (some mb), .map (some lb)] 93 (0, 0)) :: AMg KG encB mb (nb q) :: ABlk rb (.cells #[.int .i64 0, .slice none 0 0, .slice none 0 0] 36 (0, 0)) :: ABlk cb (.cells (c.cells vb) 32 (0, 0)) :: Ps) from by
        have h1 := hP.up1z.tail
        rw [List.take_zero, List.map_nil, List.append_nil]
        exact h1.up4.swap2)
      clear hn1 hn2 hP lk g16 s1 d0
      go_wp2_with fail
      go_loopw [8, 63] (fun u8 jv wx => ∃ (j : Nat), jv = .int .i64 j ∧ j ≤ n1 ∧ Hp w0 wx (AMv u8 (MB ++ (dd.take j).map (fun x => (σ.a.dead, x))) :: AQu b (qTck σ c.n).1 T :: ALt (.slice A1 n1 c1) dd :: AQs (tqs (q.take i) c.n ++ q.drop (i + 1)) T :: AStrs (.slice (some ad) nN cN) names :: ABlk sb (.cells #[.int .i64 c.n, .map (some mb), .map (some lb)] 93 (0, 0)) :: AMg KG encB mb (nb q) :: ABlk rb (.cells #[.int .i64 0, .slice none 0 0, .slice none 0 0] 36 (0, 0)) :: ABlk cb (.cells (c.cells vb) 32 (0, 0)) :: Ps)) (fun _ jv _ => n1 - (intOf jv).toNat)
      case atStart => exact ⟨0, rfl, Nat.zero_le _, HP6.out⟩
      case round =>
        obtain ⟨j, rfl, hj, hQ2⟩ := hrel
        have HQ2 := Lib.hid hQ2
        clear hQ2
        by_cases hjn : j < n1
        case pos =>
          have m0 : (0 : Int) ≤ (j : Int) := by omega
          have m1 : (j : Int) < (n1 : Int) := by omega
          obtain ⟨ae, x, hA1, hx, e0, e1, e2, e3⟩ := C_nth_ltS (Kd.R_reads' HQ2.out.up2.head).2.2 j (by rw [← (Kd.R_reads' HQ2.out.up2.head).1]; exact hjn)
          subst hA1
          obtain ⟨id, cnt, body, group⟩ := x
          dsimp only at e0 e1 e2 e3
          have HDT := Lib.hid (show dd.take (j + 1) = dd.take j ++ [(id, (cnt, (body, group)))] by rw [List.take_add_one, hx]; rfl)
          have HML := Lib.hid (show (MB ++ (dd.take j).map (fun x => (σ.a.dead, x))).length ≤ 20000 by rw [List.length_append, List.length_map, List.length_take]; have := HMLEN.out; have := HN1.out; omega)
          have HX := Lib.hid (HQ2.out.alloc (.cells #[.int .i64 id, .int .i64 cnt, .string body, .string group] 199))
          clear hx
          go_upto_region 15 with (fail)
          clear e0 e1 e2 e3
          obtain ⟨xb, hxb⟩ : ∃ xb, xb = wr.heap.size := ⟨_, rfl⟩
          rw [← hxb] at HX ⊢
          clear hxb
          generalize wr.alloc (.cells #[.int .i64 id, .int .i64 cnt, .string body, .string group] 199) = V0 at *
          have HPd := Lib.hid ((HX.out.below (Below.refl _ _).drew).up2.swap)
          refine start_ (n := 9) (S := fun w' => w'.heap[xb]? = some (.cells #[.int .i64 id, .int .i64 cnt, .string body, .string group] 199 (0, 0))) (ds := []) #[false, false, false, false, false, false, false, false, false] (by kernel_rfl) rfl rfl (HPd.out.blk0) (fun hHeld => ?_)
          generalize V0.drew = wd at *
          refine pure_ (i := 0) (N := (some 67)) (v := ?_) (a' := ?_) #[true, false, false, false, false, false, false, false, false] rfl rfl (by kernel_rfl) (fun _ _ _ h => h) (Or.inl ⟨by rfl, ?_⟩) ?_ ?_
          rotate_left
          · intro w'
            go_simp
            with_reducible rfl
          rotate_left
          · simp only [Act.put, List.setIfInBounds_toArray, List.set_cons_zero, List.set_cons_succ, i64_w, i32_w]
            rfl
          refine pure_ (i := 1) (N := (some 68)) (v := ?_) (a' := ?_) #[true, true, false, false, false, false, false, false, false] rfl rfl (by kernel_rfl) (fun _ _ _ h => h) (Or.inl ⟨by rfl, ?_⟩) ?_ ?_
          rotate_left
          · intro w'
            go_simp
            with_reducible rfl
          rotate_left
          · simp only [Act.put, List.setIfInBounds_toArray, List.set_cons_zero, List.set_cons_succ, i64_w, i32_w]
            rfl
          refine take_ (i := 4) (N := (some 71)) (v := ?_) (a' := ?_) #[true, true, false, false, true, false, false, false, false] rfl rfl (by kernel_rfl) (fun _ _ _ h => h) (Or.inl ⟨by rfl, ?_⟩) hHeld ?_ ?_
          rotate_left
          · rintro w' hh
            obtain ⟨f0, f1, f2, f3⟩ := blkA4 hh
            go_simp
            with_reducible rfl
          rotate_left
          · simp only [Act.put, List.setIfInBounds_toArray, List.set_cons_zero, List.set_cons_succ, i64_w, i32_w]
            rfl
          refine one_ (i := 2) (N := (some 69)) #[true, true, true, false, true, false, false, false, false] rfl rfl (by kernel_rfl) (by decide) (fun K hK => ?_)
          refine goes_ Tryz.func48 (by kernel_rfl) rfl #[.pointer (some ⟨b, 0, none⟩)] (by rfl) rfl rfl (by first | rfl | (go_simp; done) | (simp [Act.eval]; done) | (simp [Act.eval]; rfl)) ?_
          refine Calls.mono (HPd.out.swap.quAttr) ?_
          rintro e we ⟨rfl, hP⟩
          have HPe := Lib.hid hP
          clear hP
          have hfd := fieldDead (qTck σ c.n).1.a
          refine ⟨_, rfl, ?_⟩
          refine hK.out _ _ (HPe.out.blk1) (fun hHeld => ?_)
          clear hK K
          refine norm_ (a' := ?_) ?_ ?_
          rotate_left
          · show Act.put _ (some 69) _ = _
            simp only [Act.put, List.setIfInBounds_toArray, List.set_cons_zero, List.set_cons_succ, i64_w, i32_w]
            rfl
          refine pure_ (i := 3) (N := (some 70)) (v := ?_) (a' := ?_) #[true, true, true, true, true, false, false, false, false] rfl rfl (by kernel_rfl) (fun _ _ _ h => h) (Or.inl ⟨by rfl, ?_⟩) ?_ ?_
          rotate_left
          · intro w'
            go_simp
            with_reducible rfl
          rotate_left
          · simp only [Act.put, List.setIfInBounds_toArray, List.set_cons_zero, List.set_cons_succ, i64_w, i32_w]
            rfl
          clear hfd
          refine pure_ (i := 5) (N := (some 72)) (v := ?_) (a' := ?_) #[true, true, true, true, true, true, false, false, false] rfl rfl (by kernel_rfl) (fun _ _ _ h => h) (Or.inl ⟨by rfl, ?_⟩) ?_ ?_
          rotate_left
          · intro w'
            go_simp
            with_reducible rfl
          rotate_left
          · simp only [Act.put, List.setIfInBounds_toArray, List.set_cons_zero, List.set_cons_succ, i64_w, i32_w]
            rfl
          refine one_ (i := 6) (N := (some 73)) #[true, true, true, true, true, true, true, false, false] rfl rfl (by kernel_rfl) (by decide) (fun K hK => ?_)
          refine Kd.R_lit_step KMv (w0 := we) we.heap.size 201 ?hg (N := 73) ?hd (xs := [(((qTck σ c.n).1.a.dead, (id, (cnt, (body, group)))) : Mv)]) (inner := [.string (qTck σ c.n).1.a.dead, .int .i64 id, .int .i64 cnt, .string body, .string group]) (ok := fun _ => True) (okp := fun _ => True) ?hr ?hp (fun _ hk => hk) trivial (Below.refl _ _) (Nat.le_refl _) (by simp) ?_; (case hd => rfl); (case hg => rfl); (case hr => first | (go_simp; done) | (go_simp; rfl)); (case hp => exact (Reps.none _ _).snoc (KMv_of _ _ _ _) rfl)
          intro vl wl hRl hBl _ _
          have HPl := Lib.hid (HPe.out.row hBl hRl)
          obtain ⟨Al, cl, hvl⟩ := Kd.R_slice hRl
          subst hvl
          clear hRl hBl
          refine hK.out _ _ (HPl.out.blk2) (fun hHeld => ?_)
          clear hK K
          refine norm_ (a' := ?_) ?_ ?_
          rotate_left
          · show Act.put _ (some 73) _ = _
            simp only [Act.put, List.setIfInBounds_toArray, List.set_cons_zero, List.set_cons_succ, i64_w, i32_w]
            rfl
          refine one_ (i := 7) (N := (some 74)) #[true, true, true, true, true, true, true, true, false] rfl rfl (by kernel_rfl) (by decide) (fun K hK => ?_)
          have HPm := Lib.hid HPl.out.up3
          obtain ⟨okr, hR1, hR2, hR3⟩ := HPm.out.appended
          have hCx := Kd.R_reads' HPm.out.tail.head
          refine Kd.R_append_rows_step KMv (w0 := wl) 0 (by rfl) (.tmp 67) (.tmp 73) 194 201 (.agg #[.string ⟨#[]⟩, .int .i64 0, .int .i64 0, .string ⟨#[]⟩, .string ⟨#[]⟩]) 64 rfl Tryz.underlying194 info_mv rfl (by decide) (by omega) u8 (MB ++ (dd.take j).map (fun x => (σ.a.dead, x))) [(((qTck σ c.n).1.a.dead, (id, (cnt, (body, group)))) : Mv)] Al 1 cl okr (fun _ => False) rfl rfl hR1 hCx.2.2 (fun _ _ h => h) (fun _ h => h.elim) hR2 (Below.refl _ _) (Nat.zero_le _) (by have := HML.out; simp at this ⊢; omega) ?_
          intro v9 w9 hR9 _ hg9 _
          have HP9 := Lib.hid (hR3 v9 w9 _ hR9 ⟨hg9.os, hg9.tape, hg9.output, hg9.size, hg9.block⟩).drop1
          clear hR9 hg9 hR1 hR2 hR3 hCx okr
          refine hK.out _ _ (HP9.out.blk2) (fun hHeld => ?_)
          clear hK K
          refine norm_ (a' := ?_) ?_ ?_
          rotate_left
          · show Act.put _ (some 74) _ = _
            simp only [Act.put, List.setIfInBounds_toArray, List.set_cons_zero, List.set_cons_succ, i64_w, i32_w]
            rfl
          refine pure_ (i := 8) (N := (some 8)) (v := ?_) (a' := ?_) #[true, true, true, true, true, true, true, true, true] rfl rfl (by kernel_rfl) (fun _ _ _ h => h) (Or.inl ⟨by rfl, ?_⟩) ?_ ?_
          rotate_left
          · intro w'
            go_simp
            with_reducible rfl
          rotate_left
          · simp only [Act.put, List.setIfInBounds_toArray, List.set_cons_zero, List.set_cons_succ, i64_w, i32_w]
            rfl
          refine done_ (by kernel_rfl) ?_
          have HP10 := Lib.hid (show Hp w0 w9 (AMv v9 (MB ++ (dd.take (j + 1)).map (fun x => (σ.a.dead, x))) :: AQu b (qTck σ c.n).1 T :: ALt (.slice (some ae) n1 c1) dd :: AQs (tqs (q.take i) c.n ++ q.drop (i + 1)) T :: AStrs (.slice (some ad) nN cN) names :: ABlk sb (.cells #[.int .i64 c.n, .map (some mb), .map (some lb)] 93 (0, 0)) :: AMg KG encB mb (nb q) :: ABlk rb (.cells #[.int .i64 0, .slice none 0 0, .slice none 0 0] 36 (0, 0)) :: ABlk cb (.cells (c.cells vb) 32 (0, 0)) :: Ps) from by
            have h1 := HP9.out.drop2
            rw [HDT.out, List.map_append, ← List.append_assoc]
            rw [tck_a] at h1
            exact h1)
          go_wp2_with fail
          refine ⟨⟨j + 1, by simp, by omega, HP10.out⟩, ?_⟩
          simp [intOf]
          omega
        case neg =>
        have hj' : j = n1 := by omega
        subst hj'
        have m1 : ¬ (j : Int) < (j : Int) := by omega
        have HPN := Lib.hid (show Hp w0 wr (AStrs (.slice (some ad) nN cN) names :: AMv u8 (tkMoves (lq (q.take (i + 1))) c.n) :: ABlk sb (.cells #[.int .i64 c.n, .map (some mb), .map (some lb)] 93 (0, 0)) :: AMg KG encB mb (nb q) :: AQs (tqs (q.take (i + 1)) c.n ++ q.drop (i + 1)) T :: ABlk rb (.cells #[.int .i64 0, .slice none 0 0, .slice none 0 0] 36 (0, 0)) :: ABlk cb (.cells (c.cells vb) 32 (0, 0)) :: Ps) from by
          have h1 := HQ2.out.drop2
          rw [List.take_of_length_le (by rw [HN1.out]; exact Nat.le_refl _)] at h1
          have h2 := (h1.up2.swap.tail.up1z)
          have h3 : Hp w0 wr (AQu b (qTck σ c.n).1 T :: AQs (tqs (q.take i) c.n ++ q.drop (i + 1)) T :: AMv u8 (MB ++ dd.map (fun x => (σ.a.dead, x))) :: AStrs (.slice (some ad) nN cN) names :: ABlk sb (.cells #[.int .i64 c.n, .map (some mb), .map (some lb)] 93 (0, 0)) :: AMg KG encB mb (nb q) :: ABlk rb (.cells #[.int .i64 0, .slice none 0 0, .slice none 0 0] 36 (0, 0)) :: ABlk cb (.cells (c.cells vb) 32 (0, 0)) :: Ps) := h1.swap.swap2
          have h4 := h3.qsBack (n := nm)
          have e1 : tqs (q.take i) c.n ++ (nm, (b, (qTck σ c.n).1)) :: q.drop (i + 1) = tqs (q.take (i + 1)) c.n ++ q.drop (i + 1) := by rw [HTK.out, tqs_snoc, List.append_assoc]; rfl
          rw [e1] at h4
          have e2 : MB ++ dd.map (fun x => (σ.a.dead, x)) = tkMoves (lq (q.take (i + 1))) c.n := by rw [HTK.out, lq_snoc, moves_snoc, HMB.out, HDD.out]
          rw [e2] at h4
          exact h4.down4.swap)
        have HPP := Lib.hid (show tkPast (lq (q.take (i + 1))) c.n = pa + n2 by rw [HTK.out, lq_snoc, past_snoc, HPA.out, HN2.out, HGG.out])
        go_wp2_with fail
        refine ⟨⟨i + 1, by simp, by omega, by rw [HPP.out], HPN.out⟩, ?_⟩
        simp [intOf]
        omega
    case neg =>
    have hi' : i = nN := by omega
    subst hi'
    have k1 : ¬ (i : Int) < (i : Int) := by omega
    have HTA := Lib.hid (show q.take i = q by rw [List.take_of_length_le (by rw [HNN.out]; exact Nat.le_refl _)])
    rw [HTA.out] at HMB HPA
    have hdn : q.drop i = [] := List.drop_of_length_le (by rw [HNN.out]; exact Nat.le_refl _)
    have HP7 := Lib.hid (show Hp w0 wr (AMv u8 MB :: ABlk sb (.cells #[.int .i64 c.n, .map (some mb), .map (some lb)] 93 (0, 0)) :: AMg KG encB mb (nb q) :: AQs (tqs q c.n) (T + 0) :: ABlk rb (.cells #[.int .i64 0, .slice none 0 0, .slice none 0 0] 36 (0, 0)) :: ABlk cb (.cells (c.cells vb) 32 (0, 0)) :: Ps) from by
      have h1 := HQ.out.tail
      rw [HTA.out, hdn, List.append_nil] at h1
      exact h1)
    clear hdn
    have HMOK := Lib.hid (moves_ok (l := lq q) HIV.out c.n)
    rw [← HMB.out] at HMOK
    obtain ⟨AM, cM, hvM⟩ := Kd.R_slice HP7.out.head
    obtain ⟨nM, hnM⟩ : ∃ k, k = MB.length := ⟨_, rfl⟩
    rw [← hnM] at hvM
    subst hvM
    have hM1 : nM ≤ 16384 := by have := HMLEN.out; omega
    have HNM2 := Lib.hid hnM
    obtain ⟨R, hR⟩ : ∃ R, R = shMoves (tkAll (lq q) c.n) MB := ⟨_, rfl⟩
    have HRR := Lib.hid hR
    clear hnM hR
    go_wp2_with fail
    go_loopw [5, 6, 79] (fun mv lv kv wx => ∃ (k m : Nat) (qk : List Qp), kv = .int .i64 k ∧ k ≤ nM ∧ m ≤ k ∧ mv = .int .i64 (m : Int) ∧ lv = .int .i64 ((k - m : Nat) : Int) ∧ Hid (R = ((shMoves (lq qk) (MB.drop k)).1, (m : Int) + (shMoves (lq qk) (MB.drop k)).2)) ∧ Hid (nb qk = nb q) ∧ Hp w0 wx (AMv (.slice AM nM cM) MB :: ABlk sb (.cells #[.int .i64 c.n, .map (some mb), .map (some lb)] 93 (0, 0)) :: AMg KG encB mb (nb q) :: AQs qk (T + k) :: ABlk rb (.cells #[.int .i64 0, .slice none 0 0, .slice none 0 0] 36 (0, 0)) :: ABlk cb (.cells (c.cells vb) 32 (0, 0)) :: Ps)) (fun _ _ kv _ => nM - (intOf kv).toNat)
    case atStart => exact ⟨0, 0, tqs q c.n, rfl, Nat.zero_le _, Nat.le_refl _, rfl, rfl, Lib.hid (by rw [HRR.out, tqs_lq, List.drop_zero]; simp), Lib.hid (tqs_nb q c.n), HP7.out⟩
    case round =>
      obtain ⟨k, m, qk, rfl, hk, hmk, rfl, rfl, HST, HNB, hQ⟩ := hrel
      have HQ := Lib.hid hQ
      clear hQ
      by_cases hkn : k < nM
      case pos =>
        have m0 : (0 : Int) ≤ (k : Int) := by omega
        have m1 : (k : Int) < (nM : Int) := by omega
        obtain ⟨ae, x, hA1, hx, e0, e1, e2, e3, e4⟩ := C_nth_mv (Kd.R_reads' HQ.out.head).2.2 k (by rw [← (Kd.R_reads' HQ.out.head).1]; exact hkn)
        subst hA1
        have hok := HMOK.out x (List.mem_of_getElem? hx)
        have HD := Lib.hid (show MB.drop k = x :: MB.drop (k + 1) by
          have hlt := (List.getElem?_eq_some_iff.1 hx).1
          rw [List.drop_eq_getElem_cons hlt, (List.getElem?_eq_some_iff.1 hx).2])
        obtain ⟨dst, id, cnt, body, group⟩ := x
        dsimp only at e0 e1 e2 e3 e4 hok
        have HX := Lib.hid (HQ.out.alloc (.cells #[.string dst, .int .i64 id, .int .i64 cnt, .string body, .string group] 201))
        have hqn : (qk.map (·.1)).Nodup := by rw [← nb_keys, HNB.out, nb_keys]; exact HND.out
        have HX2 := Lib.hid (show Hp w0 _ (ABlk sb (.cells #[.int .i64 c.n, .map (some mb), .map (some lb)] 93 (0, 0)) :: AMg KG encB mb (nb qk) :: AQs qk (T + k) :: ABlk wr.heap.size (.cells #[.string dst, .int .i64 id, .int .i64 cnt, .string body, .string group] 201 (0, 0)) :: AMv (.slice (some ae) nM cM) MB :: ABlk rb (.cells #[.int .i64 0, .slice none 0 0, .slice none 0 0] 36 (0, 0)) :: ABlk cb (.cells (c.cells vb) 32 (0, 0)) :: Ps) from by
          rw [HNB.out]
          exact HX.out.up4.up4.up4)
        have HLET := Lib.hid (HX2.out.shLetter (show T + k < 999999 by omega) hqn (dst, (id, (cnt, (body, group)))) (by simp only [maxLen]; omega) (by simp only [maxLen]; omega))
        clear hx hok hqn
        go_upto_region 21 with (fail)
        clear e0 e1 e2 e3 e4
        obtain ⟨xb, hxb⟩ : ∃ xb, xb = wr.heap.size := ⟨_, rfl⟩
        rw [← hxb] at HX2 ⊢
        clear hxb HX
        generalize wr.alloc (.cells #[.string dst, .int .i64 id, .int .i64 cnt, .string body, .string group] 201) = V0 at *
        obtain ⟨f0, f1, f2, f3, f4⟩ := blkA5 HX2.out.blk3
        go_wp2_with fail
        refine Calls.mono HLET.out ?_
        rintro e w5 ⟨q5, rfl, hq5, hn5, hP⟩
        have HP8 := Lib.hid (show Hp w0 w5 (AMv (.slice (some ae) nM cM) MB :: ABlk sb (.cells #[.int .i64 c.n, .map (some mb), .map (some lb)] 93 (0, 0)) :: AMg KG encB mb (nb q) :: AQs q5 (T + (k + 1)) :: ABlk rb (.cells #[.int .i64 0, .slice none 0 0, .slice none 0 0] 36 (0, 0)) :: ABlk cb (.cells (c.cells vb) 32 (0, 0)) :: Ps) from by
          have h1 := hP.up3.tail.up3
          rw [HNB.out] at h1
          exact h1)
        have HN5 := Lib.hid (hn5.trans HNB.out)
        have HST2 := Lib.hid (HST.out.trans (by rw [HD.out, moves_step, ← hq5]))
        clear hq5 hn5 hP f0 f1 f2 f3 f4
        obtain ⟨gb, hgb⟩ : ∃ g, g = shGoes (lq qk) (dst, (id, (cnt, (body, group)))) := ⟨_, rfl⟩
        rw [← hgb] at HST2 ⊢
        clear hgb
        cases gb
        case false =>
          go_wp2_with fail
          refine ⟨⟨k + 1, m, q5, by simp, by omega, by omega, rfl, by congr 1; omega, Lib.hid (by rw [HST2.out]; simp), HN5, HP8.out⟩, ?_⟩
          simp [intOf]
          omega
        case true =>
          go_wp2_with fail
          refine ⟨⟨k + 1, m + 1, q5, by simp, by omega, by omega, by simp, by congr 1; omega, Lib.hid (by rw [HST2.out]; simp [Int.add_assoc]), HN5, HP8.out⟩, ?_⟩
          simp [intOf]
          omega
      case neg =>
      have hk' : k = nM := by omega
      subst hk'
      have m1 : ¬ (k : Int) < (k : Int) := by omega
      have HR2 := Lib.hid (show R = (lq qk, (m : Int)) by rw [HST.out, List.drop_of_length_le (by rw [HNM2.out]; exact Nat.le_refl _)]; unfold shMoves; simp)
      have HX := Lib.hid (HQ.out.up4)
      have HXL := Lib.hid ((HX.out.alloc (.cells #[.int .i64 (m : Int), .int .i64 ((k - m : Nat) : Int), .int .i64 pa] 3)).swap)
      go_wp2_with ((with_reducible refine gate_store (t := 36) (p := 4) (v := .tmp 98) rfl ?_); refine wpList_store_row rfl 36 (.tmp 4) (.tmp 98) rfl rb #[.int .i64 0, .slice (some ⟨wr.heap.size, 0, none⟩) 3 3, .slice none 0 0] rfl rfl 36 #[.int .i64 0, .slice none 0 0, .slice none 0 0] HXL.out.blk0 info_ansS rfl (by simp [Value.oneCell']) ?_)
      have HPZ := Lib.hid (HXL.out.setRowBlkS #[.int .i64 0, .slice (some ⟨wr.heap.size, 0, none⟩) 3 3, .slice none 0 0])
      refine bodyPost_ret (results_cell_row rfl _ _ rb 36 #[.int .i64 0, .slice (some ⟨wr.heap.size, 0, none⟩) 3 3, .slice none 0 0] (0, 0) _ rfl HPZ.out.blk0 Tryz.underlying36 rfl info_ansS) rfl ?_
      refine .inr ⟨HGOOD.out, qk, ?_, HNB.out, ?_⟩
      · rw [← HMB.out, ← HRR.out, HR2.out]
      · rw [← HMB.out, ← HRR.out, HR2.out]
        have hlit := Hp.litI [(m : Int), ((k : Nat) : Int) - (m : Int), tkPast (lq q) c.n] (by simp [maxLen]) (g := wr.heap.size) (Ps := ABlk sb (.cells #[.int .i64 c.n, .map (some mb), .map (some lb)] 93 (0, 0)) :: AMg KG encB mb (nb q) :: AQs qk (T + k) :: Ps) (w0 := w0) (w := _) (by
          have h1 := HPZ.out.tail.drop1
          rw [← HPA.out, show ((k : Nat) : Int) - (m : Int) = ((k - m : Nat) : Int) by omega]
          have h2 := h1.up4.tail
          exact h2)
        have hfin := AnsE.ofIds 0 rfl hlit
        rw [← HNM2.out]
        exact hfin
end
end Go.Proofs.YtipdleiginnjmaaGreatDoor
