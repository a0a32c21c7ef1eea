/- Put together: (*Shop).Apply. -/
import Derived.Test.YtipdleiginnjmaaGreatDoorH13
set_option linter.unusedVariables false
set_option linter.unusedSimpArgs false
set_option linter.unusedVariables false
set_option linter.unusedSimpArgs false
namespace Go.Proofs.YtipdleiginnjmaaGreatDoor
open Go.RowKit Go.Maps Go.Proofs.YtipdleiginnjmaaGreatDoorW.PrintWords Go.Proofs.YtipdleiginnjmaaGreatDoorW.PrintLast
theorem Hp.join {w0 w w' : World} {Ps Qs : List Asn} (h : Hp w0 w Ps) (h2 : Hp w w' Qs) : Hp w0 w' (Qs ++ Ps) := by
  refine ⟨h.1.trans (h2.1.mono h.1.size), ?_⟩
  have h3 : Star Ps w (fun k => w0.heap.size ≤ k ∧ k < w.heap.size) := h.2.mono (fun k hk hl => ⟨hk, hl⟩)
  have h4 := Star.append h2.2 (h3.below h2.1) (fun k h1 h2 => by have := h2.2; omega)
  refine h4.mono (fun k hk _ => ?_)
  rcases hk with hk | hk
  · have := h.1.size; omega
  · exact hk.1
theorem Hp.up8s {w0 w : World} {Ps : List Asn} {P0 P1 P2 P3 P4 P5 P6 P7 P8 : Asn} (h : Hp w0 w (P0 :: P1 :: P2 :: P3 :: P4 :: P5 :: P6 :: P7 :: P8 :: Ps)) : Hp w0 w (P8 :: P0 :: P1 :: P2 :: P3 :: P4 :: P5 :: P6 :: P7 :: Ps) := h.perm (List.perm_middle (l₁ := [P0, P1, P2, P3, P4, P5, P6, P7]))
theorem Hp.join2 {w0 w w' : World} {Ps : List Asn} {P Q : Asn} (h : Hp w0 w Ps) (h2 : Hp w w' [P, Q]) : Hp w0 w' (P :: Q :: Ps) := h.join h2
theorem own_any' (code : Int) (ids : List Int) (took : List Tk) (A : Option Addr) (n c : Nat) (B : Option Addr) (m d : Nat) (w : World) (hn : n = ids.length) (hm : m = took.length) (hC : (Kd.int .i64).C w A ids.length ids) (hc : n ≤ c) (hD : KTk.C w B took.length took) (hd : m ≤ d) (h1 : ids.length ≤ 1000000) (h2 : took.length ≤ 1000000) :
    Calls Tryz.prog 39 #[.agg #[.int .i64 code, .slice A n c, .slice B m d]] w fun e w' => ∃ A' c' B' d', e = .returned (.agg #[.int .i64 code, .slice A' ids.length c', .slice B' took.length d']) ∧ Hp w w' [ATk (.slice B' took.length d') took, AInt (.slice A' ids.length c') ids] := by
  subst hn hm
  refine Calls.mono (own_any code ids took A c B d w hC hc hD hd h1 h2) ?_
  rintro e w' ⟨v1, v2, rfl, hP⟩
  obtain ⟨A', c', e1⟩ := Kd.R_slice hP.tail.head
  obtain ⟨B', d', e2⟩ := Kd.R_slice hP.head
  subst e1 e2
  exact ⟨A', c', B', d', rfl, hP⟩
theorem under_dm : Tryz.prog.underlying 91 = some (.map 3 95) := Tryz.underlying91
theorem zero_dn (w : World) : (zeroValue 95).run Tryz.prog w = .ok (.agg #[.int .i64 0, .int .i64 0, .slice none 0 0, .slice none 0 0]) w := by kernel_rfl
def dv0 : Dv := (0, (⟨0, [], []⟩, (.slice none 0 0, .slice none 0 0)))
theorem lookD {w : World} {lb : Nat} {d : List Dp} (h : MapAt KI encD w lb d) {k : Int} (hk : (Lit.int .i64 k).wf = true) :
    (Instr.lookup 91 (.map (some lb)) (.int .i64 k) true).run Tryz.prog w = .ok (.tuple #[encD ((mget d k).getD dv0), .bool (mget d k).isSome]) w := by
  have h1 := h.look under_dm (zero_dn w) (a := k) hk
  have e : ((mget d k).map encD).getD (.agg #[.int .i64 0, .int .i64 0, .slice none 0 0, .slice none 0 0]) = encD ((mget d k).getD dv0) := by cases mget d k <;> rfl
  rw [e] at h1
  exact h1
theorem blkA4f {w : World} {g t : Nat} {x0 x1 x2 x3 : Value} (h : w.heap[g]? = some (.cells #[x0, x1, x2, x3] t (0, 0))) :
    w.cell? ⟨g, 0, none⟩ = some x0 ∧ w.cell? ⟨g, 1, none⟩ = some x1 ∧ w.cell? ⟨g, 2, none⟩ = some x2 ∧ w.cell? ⟨g, 3, none⟩ = some x3 ∧ ∀ i, w.frozen? ⟨g, i, none⟩ = false :=
  ⟨blk_cell h 0, blk_cell h 1, blk_cell h 2, blk_cell h 3, fun i => blk_frozen h i⟩
/-! the law's part -/
def ld (d : List Dp) : List Dn := d.map (fun x => (x.1, (x.2.1, x.2.2.1)))
theorem ap_neg {S : Sh} {c : Cm} (h : c.client < 0) : shApply S c = (S, .fail 1) := by unfold shApply; rw [if_pos h]
theorem ap_0 {S : Sh} {c : Cm} (h : c.client = 0) : shApply S c = shHappen S c := by unfold shApply; rw [if_neg (by omega), if_pos h]
theorem ap_some {S : Sh} {c : Cm} (h : 0 < c.client) {x : Int × An} (hg : mget S.last c.client = some x) : shApply S c = if x.1 = c.req then (S, x.2) else if c.req < x.1 then (S, .fail 11) else shKeep (shHappen S c) c := by
  unfold shApply; rw [if_neg (by omega), if_neg (by omega), hg]
theorem ap_none {S : Sh} {c : Cm} (h : 0 < c.client) (hg : mget S.last c.client = none) : shApply S c = if 64 ≤ S.last.length then (S, .fail 5) else shKeep (shHappen S c) c := by
  unfold shApply; rw [if_neg (by omega), if_neg (by omega), hg]
theorem ap_same {S : Sh} {c : Cm} (h : 0 < c.client) {x : Int × An} (hg : mget S.last c.client = some x) (h1 : x.1 = c.req) : shApply S c = (S, x.2) := by rw [ap_some h hg, if_pos h1]
theorem ap_old {S : Sh} {c : Cm} (h : 0 < c.client) {x : Int × An} (hg : mget S.last c.client = some x) (h1 : c.req < x.1) : shApply S c = (S, .fail 11) := by rw [ap_some h hg, if_neg (by omega), if_pos h1]
theorem ap_keep_some {S : Sh} {c : Cm} (h : 0 < c.client) {x : Int × An} (hg : mget S.last c.client = some x) (h1 : x.1 < c.req) : shApply S c = shKeep (shHappen S c) c := by rw [ap_some h hg, if_neg (by omega), if_neg (by omega)]
theorem ap_full {S : Sh} {c : Cm} (h : 0 < c.client) (hg : mget S.last c.client = none) (h1 : 64 ≤ S.last.length) : shApply S c = (S, .fail 5) := by rw [ap_none h hg, if_pos h1]
theorem ap_keep_none {S : Sh} {c : Cm} (h : 0 < c.client) (hg : mget S.last c.client = none) (h1 : S.last.length < 64) : shApply S c = shKeep (shHappen S c) c := by rw [ap_none h hg, if_neg (by omega)]
theorem ld_get (d : List Dp) (k : Int) : mget (ld d) k = (mget d k).map (fun x => (x.1, x.2.1)) := mget_map (fun x : Dv => (x.1, x.2.1)) d k
theorem ld_len (d : List Dp) : (ld d).length = d.length := by unfold ld; rw [List.length_map]
theorem ld_keys (d : List Dp) : (ld d).map (·.1) = d.map (·.1) := by unfold ld; rw [List.map_map]; rfl
section
variable {w0 w : World} {Ps : List Asn} {sb mb lb T : Nat}
theorem keep_some {d : List Dp} {last : List Dn} (hd : ld d = last) (hn : (d.map (·.1)).Nodup) {k : Int} {x : Dv} (hg : mget d k = some x) (y : Dv) :
    ∃ d', ld d' = lput last k (y.1, y.2.1) ∧ (mput d k y).Perm d' ∧ ∀ p ∈ d', p = (k, y) ∨ p ∈ d := by
  obtain ⟨l1, l2, rfl⟩ := mget_split hg
  refine ⟨l1 ++ (k, y) :: l2, ?_, ?_, fun p hp => ?_⟩
  · subst hd
    unfold lput
    rw [ld_get, hg]
    dsimp only [Option.map_some, Option.isSome_some]
    rw [if_pos rfl]
    have e : ∀ s : Dv, ld (l1 ++ (k, s) :: l2) = ld l1 ++ (k, (s.1, s.2.1)) :: ld l2 := fun s => by unfold ld; rw [List.map_append, List.map_cons]
    rw [e, e, mupd_split]
    rw [← e, ld_keys]
    exact hn
  · unfold mput
    rw [mdel_split hn]
    exact List.perm_middle.symm
  · rcases List.mem_append.1 hp with h | h
    · exact .inr (List.mem_append_left _ h)
    · rcases List.mem_cons.1 h with h | h
      · exact .inl h
      · exact .inr (List.mem_append_right _ (List.mem_cons_of_mem _ h))
theorem keep_none {d : List Dp} {last : List Dn} (hd : ld d = last) {k : Int} (hg : mget d k = none) (y : Dv) :
    ∃ d', ld d' = lput last k (y.1, y.2.1) ∧ (mput d k y).Perm d' ∧ ∀ p ∈ d', p = (k, y) ∨ p ∈ d := by
  refine ⟨d ++ [(k, y)], ?_, ?_, fun p hp => ?_⟩
  · subst hd
    unfold lput
    rw [ld_get, hg]
    dsimp only [Option.map_none, Option.isSome_none]
    rw [if_neg (by decide)]
    unfold ld
    rw [List.map_append]
    rfl
  · exact mput_none y hg
  · rcases List.mem_append.1 hp with h | h
    · exact .inr h
    · exact .inl (List.mem_singleton.1 h)
/-- The answers' rows that are kept: clients' of this shop, and of its copies. -/
def ARs (R : List Dv) : Asn := AStar (R.map ADe)
theorem Hp.rsPick {R : List Dv} {x : Dv} (h : Hp w0 w (ARs R :: Ps)) (hx : x ∈ R) : ∃ R', Hp w0 w (ADe x :: ARs R' :: Ps) := by
  obtain ⟨R1, R2, rfl⟩ := List.append_of_mem hx
  unfold ARs at h
  rw [List.map_append, List.map_cons] at h
  exact ⟨R1 ++ R2, by unfold ARs; rw [List.map_append]; exact h.starPick⟩
theorem Hp.rsNil (h : Hp w0 w Ps) : Hp w0 w (ARs [] :: Ps) := Hp.star (Qs := []) h
theorem Hp.rsPut {R : List Dv} {x : Dv} (h : Hp w0 w (ADe x :: ARs R :: Ps)) : Hp w0 w (ARs (x :: R) :: Ps) := Hp.starBack (L1 := []) h
/-- A shop (its block sb) that is S; its answers' rows are of R. -/
noncomputable def AShR (sb : Nat) (S : Sh) (T : Nat) (R : List Dv) : Asn := AEx (fun p : ShP => AIf (ShInv S T ∧ ShFit S p ∧ ∀ x ∈ p.d, x.2 ∈ R) (AStar [ABlk sb (.cells #[.int .i64 S.now, .map (some p.mb), .map (some p.lb)] 93 (0, 0)), AMg KG encB p.mb (nb p.q), AQs p.q T, AMg KI encD p.lb p.d]))
theorem Hp.srOpen {S : Sh} {R : List Dv} (h : Hp w0 w (AShR sb S T R :: Ps)) : ∃ (mb lb : Nat) (q : List Qp) (d : List Dp), ShInv S T ∧ ShFit S ⟨mb, lb, q, d⟩ ∧ (∀ x ∈ d, x.2 ∈ R) ∧ Hp w0 w (ABlk sb (.cells #[.int .i64 S.now, .map (some mb), .map (some lb)] 93 (0, 0)) :: AMg KG encB mb (nb q) :: AQs q T :: AMg KI encD lb d :: Ps) := by
  obtain ⟨p, h⟩ := h.unex
  obtain ⟨⟨h1, h2, h3⟩, h⟩ := h.unif
  exact ⟨p.mb, p.lb, p.q, p.d, h1, h2, h3, h.unstar⟩
theorem Hp.srShut {S : Sh} {R : List Dv} {q : List Qp} {d : List Dp} (h : Hp w0 w (ABlk sb (.cells #[.int .i64 S.now, .map (some mb), .map (some lb)] 93 (0, 0)) :: AMg KG encB mb (nb q) :: AQs q T :: AMg KI encD lb d :: Ps)) (h1 : ShInv S T) (h2 : ShFit S ⟨mb, lb, q, d⟩) (h3 : ∀ x ∈ d, x.2 ∈ R) : Hp w0 w (AShR sb S T R :: Ps) :=
  Hp.ex (⟨mb, lb, q, d⟩ : ShP) (Hp.if_ ⟨h1, h2, h3⟩ (Hp.star (Qs := [ABlk sb (.cells #[.int .i64 S.now, .map (some mb), .map (some lb)] 93 (0, 0)), AMg KG encB mb (nb q), AQs q T, AMg KI encD lb d]) h))
theorem Hp.srMono {S : Sh} {T' : Nat} {R R' : List Dv} (h : Hp w0 w (AShR sb S T R :: Ps)) (hT : T ≤ T') (hR : ∀ x ∈ R, x ∈ R') : Hp w0 w (AShR sb S T' R' :: Ps) := by
  obtain ⟨mb, lb, q, d, h1, h2, h3, h⟩ := h.srOpen
  exact ((h.up2.qsMono hT).down2).srShut (h1.mono hT) h2 (fun x hx => hR _ (h3 x hx))
theorem got_slice {d : List Dp} {R : List Dv} (hd : ∀ x ∈ d, x.2 ∈ R) (h : Hp w0 w (ARs R :: Ps)) (k : Int) : ∃ (dr : Int) (ad : An) (A : Option Addr) (n c : Nat) (B : Option Addr) (m e : Nat), ((dr, (ad, (.slice A n c, .slice B m e))) : Dv) = (mget d k).getD dv0 := by
  cases hg : mget d k with
  | none => exact ⟨0, ⟨0, [], []⟩, none, 0, 0, none, 0, 0, rfl⟩
  | some x =>
    obtain ⟨R', h0⟩ := h.rsPick (hd _ (mget_some hg))
    have h1 := h0.deOpen
    obtain ⟨dr, ad, v1, v2⟩ := x
    obtain ⟨A, c, e1⟩ := Kd.R_slice h1.head
    obtain ⟨B, e, e2⟩ := Kd.R_slice h1.tail.head
    dsimp only at e1 e2
    subst e1 e2
    exact ⟨dr, ad, A, _, c, B, _, e, rfl⟩
def ApE (e : Ending) (w0 w' : World) (sb : Nat) (S : Sh) (c : Cm) (T : Nat) (R : List Dv) (Ps : List Asn) : Prop :=
  ∃ R', (∀ x ∈ R, x ∈ R') ∧ AnsE e (shApply S c).2 w0 w' (AShR sb (shApply S c).1 (T + shGrow S c) R' :: ARs R' :: Ps)
theorem ApE.of {e : Ending} {w' : World} {S : Sh} {c : Cm} {R : List Dv} {r : Sh × An} (hr : shApply S c = r) (q' : List Qp) (d' : List Dp) (R' : List Dv) {T' : Nat} (hq : lq q' = r.1.l) (hd : ld d' = r.1.last) (hR : ∀ x ∈ R, x ∈ R') (hdR : ∀ x ∈ d', x.2 ∈ R') (hI : ShInv S T) (hwf : (Lit.int .i64 c.client).wf = true) (hT : T' ≤ T + shGrow S c) (A : Option Addr) (n cc : Nat) (B : Option Addr) (m dd : Nat) (he : e = .returned (.agg #[.int .i64 r.2.code, .slice A n cc, .slice B m dd])) (hn : n = r.2.ids.length) (hm : m = r.2.took.length)
    (h : Hp w0 w' (AInt (.slice A n cc) r.2.ids :: ATk (.slice B m dd) r.2.took :: ABlk sb (.cells #[.int .i64 r.1.now, .map (some mb), .map (some lb)] 93 (0, 0)) :: AMg KG encB mb (nb q') :: AQs q' T' :: AMg KI encD lb d' :: ARs R' :: Ps)) : ApE e w0 w' sb S c T R Ps := by
  have hi := (shApply_ok hI c hwf).1
  subst hr
  refine ⟨R', hR, A, n, cc, B, m, dd, he, hn, hm, ?_⟩
  have h0 : Hp w0 w' (ABlk sb (.cells #[.int .i64 (shApply S c).1.now, .map (some mb), .map (some lb)] 93 (0, 0)) :: AMg KG encB mb (nb q') :: AQs q' (T + shGrow S c) :: AMg KI encD lb d' :: ARs R' :: AInt (.slice A n cc) (shApply S c).2.ids :: ATk (.slice B m dd) (shApply S c).2.took :: Ps) := (h.up4.qsMono hT).perm (by (repeat (first | (with_reducible exact List.Perm.refl _) | (with_reducible refine pb0 ?_) | (with_reducible refine pb1 ?_) | (with_reducible refine pb2 ?_) | (with_reducible refine pb3 ?_) | (with_reducible refine pb4 ?_) | (with_reducible refine pb5 ?_) | (with_reducible refine pb6 ?_) | (with_reducible refine pb7 ?_) | (with_reducible refine pb8 ?_) | (with_reducible refine pb9 ?_) | (with_reducible refine pb10 ?_) | (with_reducible refine pb11 ?_) | (with_reducible refine pb12 ?_) | (with_reducible refine pb13 ?_) | (with_reducible refine pb14 ?_) | (with_reducible refine pb15 ?_))))
  have h2 := Hp.srShut (S := (shApply S c).1) h0 hi ⟨hq, hd⟩ hdR
  exact h2.perm (by (repeat (first | (with_reducible exact List.Perm.refl _) | (with_reducible refine pb0 ?_) | (with_reducible refine pb1 ?_) | (with_reducible refine pb2 ?_) | (with_reducible refine pb3 ?_) | (with_reducible refine pb4 ?_) | (with_reducible refine pb5 ?_) | (with_reducible refine pb6 ?_) | (with_reducible refine pb7 ?_) | (with_reducible refine pb8 ?_) | (with_reducible refine pb9 ?_) | (with_reducible refine pb10 ?_) | (with_reducible refine pb11 ?_) | (with_reducible refine pb12 ?_) | (with_reducible refine pb13 ?_) | (with_reducible refine pb14 ?_) | (with_reducible refine pb15 ?_))))
set_option maxHeartbeats 32000000 in
set_option maxRecDepth 100000 in
theorem Hp.shApplyC {S : Sh} {R : List Dv} (h : Hp w0 w (AShR sb S T R :: ARs R :: Ps)) (hrec : RecOk w0 (T + 16394)) (hE : ErrCell w0) (c : Cm) (B : Option Addr) (nl db : Nat) (hB : ∀ w1, Hp w0 w1 Ps → Kd.string.C w1 B nl c.bodies) (hok : CmOk c) :
    Calls Tryz.prog 17 #[.pointer (some ⟨sb, 0, none⟩), .agg (c.cells (.slice B nl db))] w fun e w' => ApE e w0 w' sb S c T R Ps := by
  obtain ⟨mb, lb, q, d, hI, hF, hR, h⟩ := h.srOpen
  have HRR := Lib.hid hR
  have HREC := Lib.hid hrec
  have HE := Lib.hid hE
  have HOK := Lib.hid hok
  have HI := Lib.hid hI
  have HQ := Lib.hid (show lq q = S.l from hF.1)
  have HD := Lib.hid (show ld d = S.last from hF.2)
  have HDND := Lib.hid (hF.dnd hI)
  have HDL := Lib.hid (show d.length < maxLen by have h1 := hI.llen; have h2 := congrArg List.length hF.2; rw [List.length_map] at h2; dsimp only at h2; simp only [maxLen]; omega)
  have HPB := Lib.hid hB
  have hz : (w.alloc (.cells (c.cells (.slice B nl db)) 32)).heap.size = w.heap.size + 1 := by simp
  have hp := ((show Hp w0 w (ABlk sb (.cells #[.int .i64 S.now, .map (some mb), .map (some lb)] 93 (0, 0)) :: AMg KG encB mb (nb q) :: AQs q T :: AMg KI encD lb d :: ARs R :: Ps) from h).alloc (.cells (c.cells (.slice B nl db)) 32)).alloc (.cells #[.int .i64 0, .slice none 0 0, .slice none 0 0] 36)
  rw [hz] at hp
  obtain ⟨cb, hcb⟩ : ∃ k, k = w.heap.size := ⟨_, rfl⟩
  obtain ⟨rb, hrb⟩ : ∃ k, k = w.heap.size + 1 := ⟨_, rfl⟩
  rw [← hrb, ← hcb] at hp
  have HP0 := Lib.hid hp
  have HPd := Lib.hid (hp.below (Below.refl _ _).drew)
  clear hE hz h hrec hI hF hB hok hp hR
  go_enter Tryz.func17, Tryz.ntmps17
  go_upto_region 1 with (fail)
  change Code.wp _ _ _ _ ((w.alloc (.cells (c.cells (.slice B nl db)) 32)).alloc (.cells #[.int .i64 0, .slice none 0 0, .slice none 0 0] 36))
  generalize (w.alloc (.cells (c.cells (.slice B nl db)) 32)).alloc (.cells #[.int .i64 0, .slice none 0 0, .slice none 0 0] 36) = W0 at *
  rw [← hrb, ← hcb]
  clear hrb hcb
  obtain ⟨dr, ad, A0, n0, k0, B0, m0, e0, hdx⟩ := got_slice HRR.out (HP0.out.perm (show List.Perm _ (ARs R :: _) from List.perm_middle (l₁ := [_, _, _, _, _, _]))) c.client
  obtain ⟨isd, hisd⟩ : ∃ x, x = (mget d c.client).isSome := ⟨_, rfl⟩
  have HDX := Lib.hid hdx
  have HISD := Lib.hid hisd
  have lookD : ∀ {w : World} (h : MapAt KI encD w lb d) (hk : (Lit.int .i64 c.client).wf = true), (Instr.lookup 91 (.map (some lb)) (.int .i64 c.client) true).run Tryz.prog w = .ok (.tuple #[.agg #[.int .i64 dr, .int .i64 ad.code, .slice A0 n0 k0, .slice B0 m0 e0], .bool isd]) w := fun h hk => by
    have h1 := Go.Proofs.YtipdleiginnjmaaGreatDoor.lookD h hk
    rw [← hdx, ← hisd] at h1
    exact h1
  clear hdx hisd
  refine start_ (n := 13) (S := fun w' => w'.heap[sb]? = some (.cells #[.int .i64 S.now, .map (some mb), .map (some lb)] 93 (0, 0)) ∧ w'.heap[cb]? = some (.cells (c.cells (.slice B nl db)) 32 (0, 0)) ∧ MapAt KI encD w' lb d) (ds := []) #[false, false, false, false, false, false, false, false, false, false, false, false, false] (by kernel_rfl) rfl rfl (⟨HPd.out.blk2, HPd.out.blk1, (HPd.out.perm (show List.Perm _ (AMg KI encD lb d :: _) from List.perm_middle (l₁ := [_, _, _, _, _]))).mgUse.1⟩) (fun hHeld => ?_)
  generalize W0.drew = wd at *
  refine pure_ (i := 0) (N := (some 9)) (v := ?_) (a' := ?_) #[true, false, false, false, false, false, false, false, false, false, false, false, false] rfl rfl (by kernel_rfl) (fun _ _ _ h => h) (Or.inl ⟨by rfl, ?_⟩) ?_ ?_
  rotate_left
  · intro w'
    go_simp
    with_reducible rfl
  rotate_left
  · simp only [Act.put, List.setIfInBounds_toArray, List.set_cons_zero, List.set_cons_succ, i64_w, i32_w]
    rfl
  refine pure_ (i := 1) (N := (some 10)) (v := ?_) (a' := ?_) #[true, true, false, false, false, false, false, false, false, false, false, false, false] rfl rfl (by kernel_rfl) (fun _ _ _ h => h) (Or.inl ⟨by rfl, ?_⟩) ?_ ?_
  rotate_left
  · intro w'
    go_simp
    with_reducible rfl
  rotate_left
  · simp only [Act.put, List.setIfInBounds_toArray, List.set_cons_zero, List.set_cons_succ, i64_w, i32_w]
    rfl
  refine pure_ (i := 2) (N := (some 11)) (v := ?_) (a' := ?_) #[true, true, true, false, false, false, false, false, false, false, false, false, false] rfl rfl (by kernel_rfl) (fun _ _ _ h => h) (Or.inl ⟨by rfl, ?_⟩) ?_ ?_
  rotate_left
  · intro w'
    go_simp
    with_reducible rfl
  rotate_left
  · simp only [Act.put, List.setIfInBounds_toArray, List.set_cons_zero, List.set_cons_succ, i64_w, i32_w]
    rfl
  refine pure_ (i := 4) (N := (some 13)) (v := ?_) (a' := ?_) #[true, true, true, false, true, false, false, false, false, false, false, false, false] rfl rfl (by kernel_rfl) (fun _ _ _ h => h) (Or.inl ⟨by rfl, ?_⟩) ?_ ?_
  rotate_left
  · intro w'
    go_simp
    with_reducible rfl
  rotate_left
  · simp only [Act.put, List.setIfInBounds_toArray, List.set_cons_zero, List.set_cons_succ, i64_w, i32_w]
    rfl
  refine take_ (i := 3) (N := (some 12)) (v := ?_) (a' := ?_) #[true, true, true, true, true, false, false, false, false, false, false, false, false] rfl rfl (by kernel_rfl) (fun _ _ _ h => h) (Or.inl ⟨by rfl, ?_⟩) hHeld ?_ ?_
  rotate_left
  · rintro w' ⟨hh, -, -⟩
    have g2 := blk_cell hh 2; simp only [List.getElem?_toArray, List.getElem?_cons_zero, List.getElem?_cons_succ] at g2
    go_simp
    with_reducible rfl
  rotate_left
  · simp only [Act.put, List.setIfInBounds_toArray, List.set_cons_zero, List.set_cons_succ, i64_w, i32_w]
    rfl
  refine take_ (i := 5) (N := (some 14)) (v := ?_) (a' := ?_) #[true, true, true, true, true, true, false, false, false, false, false, false, false] rfl rfl (by kernel_rfl) (fun _ _ _ h => h) (Or.inl ⟨by rfl, ?_⟩) hHeld ?_ ?_
  rotate_left
  · rintro w' ⟨-, hh, -⟩
    have g0 : w'.cell? ⟨cb, 0, none⟩ = some (.int .i64 c.client) := blk_cell hh 0
    go_simp
    with_reducible rfl
  rotate_left
  · simp only [Act.put, List.setIfInBounds_toArray, List.set_cons_zero, List.set_cons_succ, i64_w, i32_w]
    rfl
  refine take_ (i := 6) (N := (some 15)) (v := ?_) (a' := ?_) #[true, true, true, true, true, true, true, false, false, false, false, false, false] rfl rfl (by kernel_rfl) (fun _ _ _ h => h) (Or.inl ⟨by rfl, ?_⟩) hHeld ?_ ?_
  rotate_left
  · rintro w' ⟨-, -, hh⟩
    have lk := lookD hh HOK.out.client
    go_simp
    with_reducible rfl
  rotate_left
  · simp only [Act.put, List.setIfInBounds_toArray, List.set_cons_zero, List.set_cons_succ, i64_w, i32_w]
    rfl
  refine pure_ (i := 7) (N := (some 8)) (v := ?_) (a' := ?_) #[true, true, true, true, true, true, true, true, false, false, false, false, false] rfl rfl (by kernel_rfl) (fun _ _ _ h => h) (Or.inl ⟨by rfl, ?_⟩) ?_ ?_
  rotate_left
  · intro w'
    go_simp
    with_reducible rfl
  rotate_left
  · simp only [Act.put, List.setIfInBounds_toArray, List.set_cons_zero, List.set_cons_succ, i64_w, i32_w]
    rfl
  refine pure_ (i := 8) (N := (some 16)) (v := ?_) (a' := ?_) #[true, true, true, true, true, true, true, true, true, false, false, false, false] rfl rfl (by kernel_rfl) (fun _ _ _ h => h) (Or.inl ⟨by rfl, ?_⟩) ?_ ?_
  rotate_left
  · intro w'
    go_simp
    with_reducible rfl
  rotate_left
  · simp only [Act.put, List.setIfInBounds_toArray, List.set_cons_zero, List.set_cons_succ, i64_w, i32_w]
    rfl
  refine pure_ (i := 9) (N := (some 17)) (v := ?_) (a' := ?_) #[true, true, true, true, true, true, true, true, true, true, false, false, false] rfl rfl (by kernel_rfl) (fun _ _ _ h => h) (Or.inl ⟨by rfl, ?_⟩) ?_ ?_
  rotate_left
  · intro w'
    go_simp
    with_reducible rfl
  rotate_left
  · simp only [Act.put, List.setIfInBounds_toArray, List.set_cons_zero, List.set_cons_succ, i64_w, i32_w]
    rfl
  refine one_ (i := 10) (N := (some 5)) #[true, true, true, true, true, true, true, true, true, true, true, false, false] rfl rfl (by kernel_rfl) (by decide) (fun K hK => ?_)
  refine value_ (v := .pointer (some ⟨wd.heap.size, 0, none⟩)) (w1 := wd.alloc (.cells #[.int .i64 0, .int .i64 0, .slice none 0 0, .slice none 0 0] 95)) (by rfl) rfl (by first | (go_simp; done) | (go_simp; rfl)) ?_
  have HPa := Lib.hid (HPd.out.alloc (.cells #[.int .i64 0, .int .i64 0, .slice none 0 0, .slice none 0 0] 95))
  generalize hwa : wd.alloc (.cells #[.int .i64 0, .int .i64 0, .slice none 0 0, .slice none 0 0] 95) = wa at *
  refine hK.out _ _ (⟨HPa.out.tail.blk2, HPa.out.tail.blk1, (HPa.out.tail.perm (show List.Perm _ (AMg KI encD lb d :: _) from List.perm_middle (l₁ := [_, _, _, _, _]))).mgUse.1⟩) (fun hHeld => ?_)
  clear hK K
  refine norm_ (a' := ?_) ?_ ?_
  rotate_left
  · show Act.put _ (some 5) _ = _
    simp only [Act.put, List.setIfInBounds_toArray, List.set_cons_zero, List.set_cons_succ, i64_w, i32_w]
    rfl
  refine one_ (i := 11) (N := none) #[true, true, true, true, true, true, true, true, true, true, true, true, false] rfl rfl (by kernel_rfl) (by decide) (fun K hK => ?_)
  obtain ⟨z0, z1, z2, z3, zf⟩ := blkA4f HPa.out.blk0
  refine skip_ (w1 := ?_) (by rfl) rfl ?_ ?_
  rotate_left
  · go_simp
    rfl
  have HPb := Lib.hid ((((HPa.out.setBlk 0 (.int .i64 dr)).setBlk 1 (.int .i64 ad.code)).setBlk 2 (.slice A0 n0 k0)).setBlk 3 (.slice B0 m0 e0))
  simp only [List.setIfInBounds_toArray, List.set_cons_zero, List.set_cons_succ] at HPb
  clear z0 z1 z2 z3 zf
  generalize (((wa.setCell ⟨wd.heap.size, 0, none⟩ (.int .i64 dr)).setCell ⟨wd.heap.size, 1, none⟩ (.int .i64 ad.code)).setCell ⟨wd.heap.size, 2, none⟩ (.slice A0 n0 k0)).setCell ⟨wd.heap.size, 3, none⟩ (.slice B0 m0 e0) = W1 at *
  refine hK.out _ _ (⟨HPb.out.tail.blk2, HPb.out.tail.blk1, (HPb.out.tail.perm (show List.Perm _ (AMg KI encD lb d :: _) from List.perm_middle (l₁ := [_, _, _, _, _]))).mgUse.1⟩) (fun hHeld => ?_)
  clear hK K
  refine pure_ (i := 12) (N := (some 6)) (v := ?_) (a' := ?_) #[true, true, true, true, true, true, true, true, true, true, true, true, true] rfl rfl (by kernel_rfl) (fun _ _ _ h => h) (Or.inl ⟨by rfl, ?_⟩) ?_ ?_
  rotate_left
  · intro w'
    go_simp
    with_reducible rfl
  rotate_left
  · simp only [Act.put, List.setIfInBounds_toArray, List.set_cons_zero, List.set_cons_succ, i64_w, i32_w]
    rfl
  refine done_ (by kernel_rfl) ?_
  clear lookD
  obtain ⟨xb, hxb⟩ : ∃ k, k = wd.heap.size := ⟨_, rfl⟩
  rw [← hxb] at HPb ⊢
  clear hHeld HPd HPa HP0 hwa hxb
  have HP1 := Lib.hid (show Hp w0 W1 (ABlk xb (.cells #[.int .i64 dr, .int .i64 ad.code, (.slice A0 n0 k0), (.slice B0 m0 e0)] 95 (0, 0)) :: ABlk rb (.cells #[.int .i64 0, .slice none 0 0, .slice none 0 0] 36 (0, 0)) :: ABlk cb (.cells (c.cells (.slice B nl db)) 32 (0, 0)) :: ABlk sb (.cells #[.int .i64 S.now, .map (some mb), .map (some lb)] 93 (0, 0)) :: AMg KG encB mb (nb q) :: AQs q T :: AMg KI encD lb d :: ARs R :: Ps) from HPb.out)
  clear HPb
  have c0 : W1.cell? ⟨cb, 0, none⟩ = some (.int .i64 c.client) := blk_cell HP1.out.blk2 0
  have c1 : W1.cell? ⟨cb, 1, none⟩ = some (.int .i64 c.req) := blk_cell HP1.out.blk2 1
  have s2 : W1.cell? ⟨sb, 2, none⟩ = some (.map (some lb)) := blk_cell HP1.out.blk3 2
  obtain ⟨x0, x1, x2, x3⟩ := blkA4 HP1.out.blk0
  by_cases hneg : c.client < 0
  case pos =>
    have HC0 := Lib.hid hneg
    have HF := Lib.hid (failed_any 1 _ (HE.out.below HP1.out.belowW))
    go_wp2_with fail
    refine Calls.mono HF.out ?_
    rintro e w8 ⟨rfl, hB⟩
    have HP8 := Lib.hid (HP1.out.below hB).swap
    clear hB
    go_wp2_with ((with_reducible refine gate_store (t := 36) (p := 4) (v := .tmp 23) rfl ?_); refine wpList_store_row rfl 36 (.tmp 4) (.tmp 23) rfl rb #[.int .i64 1, .slice none 0 0, .slice none 0 0] rfl rfl 36 #[.int .i64 0, .slice none 0 0, .slice none 0 0] HP8.out.blk0 info_ansS rfl (by simp [Value.oneCell']) ?_)
    have HPZ := Lib.hid (HP8.out.setRowBlkS #[.int .i64 1, .slice none 0 0, .slice none 0 0])
    refine bodyPost_ret (results_cell_row rfl _ _ rb 36 #[.int .i64 1, .slice none 0 0, .slice none 0 0] (0, 0) _ rfl HPZ.out.blk0 Tryz.underlying36 rfl info_ansS) rfl ?_
    exact ApE.of (r := (S, .fail 1)) (ap_neg HC0.out) q d R HQ.out HD.out (fun _ h => h) HRR.out HI.out HOK.out.client (Nat.le_add_right _ _) none 0 0 none 0 0 rfl rfl rfl ((HPZ.out.tail.tail.tail.nilRowS KTk 45).nilRowS (Kd.int .i64) 3)
  case neg =>
  by_cases hz0 : c.client = 0
  case pos =>
    have HC0 := Lib.hid hz0
    rw [hz0] at c0
    clear hneg hz0
    have HAP := Lib.hid ((show Hp w0 W1 (ABlk sb (.cells #[.int .i64 S.now, .map (some mb), .map (some lb)] 93 (0, 0)) :: AMg KG encB mb (nb q) :: AQs q T :: AMg KI encD lb d :: ARs R :: ABlk rb (.cells #[.int .i64 0, .slice none 0 0, .slice none 0 0] 36 (0, 0)) :: ABlk cb (.cells (c.cells (.slice B nl db)) 32 (0, 0)) :: ABlk xb (.cells #[.int .i64 dr, .int .i64 ad.code, (.slice A0 n0 k0), (.slice B0 m0 e0)] 95 (0, 0)) :: Ps) from HP1.out.perm (by (repeat (first | (with_reducible exact List.Perm.refl _) | (with_reducible refine pb0 ?_) | (with_reducible refine pb1 ?_) | (with_reducible refine pb2 ?_) | (with_reducible refine pb3 ?_) | (with_reducible refine pb4 ?_) | (with_reducible refine pb5 ?_) | (with_reducible refine pb6 ?_) | (with_reducible refine pb7 ?_) | (with_reducible refine pb8 ?_) | (with_reducible refine pb9 ?_) | (with_reducible refine pb10 ?_) | (with_reducible refine pb11 ?_) | (with_reducible refine pb12 ?_) | (with_reducible refine pb13 ?_) | (with_reducible refine pb14 ?_) | (with_reducible refine pb15 ?_))))).shHappenC HREC.out HE.out HQ.out HI.out c B nl db (fun w1 h1 => HPB.out w1 h1.tail.tail.tail.tail.tail) HOK.out)
    go_wp2_with ((with_reducible refine gate_dst (N := 29) rfl ?_); refine wpList_load_row rfl 32 (.tmp 3) rfl cb rfl 32 (c.cells (.slice B nl db)) (0, 0) _ (HP1.out.blk2) Tryz.underlying32 rfl info_cmdS ?_)
    refine Calls.mono HAP.out ?_
    obtain ⟨⟨S', an⟩, hr⟩ : ∃ r, r = shHappen S c := ⟨_, rfl⟩
    have HR := Lib.hid hr
    clear hr
    have HAO := Lib.hid (shHappen_ok HI.out c).2.2
    have HSL := Lib.hid (shHappen_ok HI.out c).2.1
    rw [← HR.out] at HAO HSL
    rintro e w5 ⟨q', hq', hA⟩
    rw [← HR.out] at hq' hA
    obtain ⟨A1, n1, c1, B1, m1, d1, rfl, hn, hm, hP⟩ := hA
    dsimp only at hq' hn hm hP HAO HSL
    have HQ' := Lib.hid hq'
    have HN := Lib.hid hn
    have HM := Lib.hid hm
    clear hq' hn hm
    have HP8 := Lib.hid (hP.up7)
    clear hP
    go_wp2_with ((with_reducible refine gate_store (t := 36) (p := 4) (v := .tmp 30) rfl ?_); refine wpList_store_row rfl 36 (.tmp 4) (.tmp 30) rfl rb #[.int .i64 an.code, .slice A1 n1 c1, .slice B1 m1 d1] rfl rfl 36 #[.int .i64 0, .slice none 0 0, .slice none 0 0] HP8.out.blk0 info_ansS rfl (by simp [Value.oneCell']) ?_)
    have HPZ := Lib.hid (HP8.out.setRowBlkS #[.int .i64 an.code, .slice A1 n1 c1, .slice B1 m1 d1])
    refine bodyPost_ret (results_cell_row rfl _ _ rb 36 #[.int .i64 an.code, .slice A1 n1 c1, .slice B1 m1 d1] (0, 0) _ rfl HPZ.out.blk0 Tryz.underlying36 rfl info_ansS) rfl ?_
    exact ApE.of (r := (S', an)) ((ap_0 HC0.out).trans HR.out.symm) q' d R HQ'.out (HD.out.trans HSL.out.symm) (fun _ h => h) HRR.out HI.out HOK.out.client (Nat.le_refl _) A1 n1 c1 B1 m1 d1 rfl HN.out HM.out (HPZ.out.tail.up7.tail.up7.tail)
  case neg =>
  have HC0 := Lib.hid (show 0 < c.client by omega)
  cases hgd : mget d c.client with
  | some dy =>
    have e1 : ((dr, (ad, (.slice A0 n0 k0, .slice B0 m0 e0))) : Dv) = dy := by rw [HDX.out, hgd]; rfl
    have e2 : isd = true := by rw [HISD.out, hgd]; rfl
    subst e1 e2
    have HGD := Lib.hid hgd
    have HGL := Lib.hid (show mget S.last c.client = some (dr, ad) by rw [← HD.out, ld_get, hgd]; rfl)
    clear hgd
    by_cases hsame : dr = c.req
    case pos =>
      have HC1 := Lib.hid hsame
      obtain ⟨R1, hde⟩ := (show Hp w0 W1 (ARs R :: AMg KI encD lb d :: ABlk xb (.cells #[.int .i64 dr, .int .i64 ad.code, (.slice A0 n0 k0), (.slice B0 m0 e0)] 95 (0, 0)) :: ABlk rb (.cells #[.int .i64 0, .slice none 0 0, .slice none 0 0] 36 (0, 0)) :: ABlk cb (.cells (c.cells (.slice B nl db)) 32 (0, 0)) :: ABlk sb (.cells #[.int .i64 S.now, .map (some mb), .map (some lb)] 93 (0, 0)) :: AMg KG encB mb (nb q) :: AQs q T :: Ps) from HP1.out.perm (by (repeat (first | (with_reducible exact List.Perm.refl _) | (with_reducible refine pb0 ?_) | (with_reducible refine pb1 ?_) | (with_reducible refine pb2 ?_) | (with_reducible refine pb3 ?_) | (with_reducible refine pb4 ?_) | (with_reducible refine pb5 ?_) | (with_reducible refine pb6 ?_) | (with_reducible refine pb7 ?_) | (with_reducible refine pb8 ?_) | (with_reducible refine pb9 ?_) | (with_reducible refine pb10 ?_) | (with_reducible refine pb11 ?_) | (with_reducible refine pb12 ?_) | (with_reducible refine pb13 ?_) | (with_reducible refine pb14 ?_) | (with_reducible refine pb15 ?_))))).rsPick (HRR.out _ (mget_some HGD.out))
      have HDE := Lib.hid hde
      clear hde
      have HLA := Lib.hid (HI.out.lans _ (mget_some HGL.out))
      obtain ⟨aI1, aI2, aI3⟩ := Kd.R_reads' HDE.out.deOpen.head
      obtain ⟨aT1, aT2, aT3⟩ := Kd.R_reads' HDE.out.deOpen.tail.head
      have HOWN := Lib.hid (own_any' ad.code ad.ids ad.took A0 n0 k0 B0 m0 e0 W1 aI1 aT1 aI3 aI2 aT3 aT2 (by have h1 := HLA.out.1; dsimp only at h1; omega) (by have h1 := HLA.out.2; dsimp only at h1; omega))
      clear aI1 aI2 aI3 aT1 aT2 aT3
      go_wp2_with fail
      refine Calls.mono HOWN.out ?_
      rintro e w5 ⟨A2, c2, B2, d2, rfl, hJ⟩
      have HP8 := Lib.hid (show Hp w0 w5 (ABlk rb (.cells #[.int .i64 0, .slice none 0 0, .slice none 0 0] 36 (0, 0)) :: AInt (.slice A2 ad.ids.length c2) ad.ids :: ATk (.slice B2 ad.took.length d2) ad.took :: ABlk xb (.cells #[.int .i64 dr, .int .i64 ad.code, (.slice A0 n0 k0), (.slice B0 m0 e0)] 95 (0, 0)) :: ABlk cb (.cells (c.cells (.slice B nl db)) 32 (0, 0)) :: ABlk sb (.cells #[.int .i64 S.now, .map (some mb), .map (some lb)] 93 (0, 0)) :: AMg KG encB mb (nb q) :: AQs q T :: AMg KI encD lb d :: ARs R :: Ps) from (HP1.out.join2 hJ).perm (by (repeat (first | (with_reducible exact List.Perm.refl _) | (with_reducible refine pb0 ?_) | (with_reducible refine pb1 ?_) | (with_reducible refine pb2 ?_) | (with_reducible refine pb3 ?_) | (with_reducible refine pb4 ?_) | (with_reducible refine pb5 ?_) | (with_reducible refine pb6 ?_) | (with_reducible refine pb7 ?_) | (with_reducible refine pb8 ?_) | (with_reducible refine pb9 ?_) | (with_reducible refine pb10 ?_) | (with_reducible refine pb11 ?_) | (with_reducible refine pb12 ?_) | (with_reducible refine pb13 ?_) | (with_reducible refine pb14 ?_) | (with_reducible refine pb15 ?_)))))
      clear hJ
      go_wp2_with ((with_reducible refine gate_store (t := 36) (p := 4) (v := .tmp 42) rfl ?_); refine wpList_store_row rfl 36 (.tmp 4) (.tmp 42) rfl rb #[.int .i64 ad.code, .slice A2 ad.ids.length c2, .slice B2 ad.took.length d2] rfl rfl 36 #[.int .i64 0, .slice none 0 0, .slice none 0 0] HP8.out.blk0 info_ansS rfl (by simp [Value.oneCell']) ?_)
      have HPZ := Lib.hid (HP8.out.setRowBlkS #[.int .i64 ad.code, .slice A2 ad.ids.length c2, .slice B2 ad.took.length d2])
      refine bodyPost_ret (results_cell_row rfl _ _ rb 36 #[.int .i64 ad.code, .slice A2 ad.ids.length c2, .slice B2 ad.took.length d2] (0, 0) _ rfl HPZ.out.blk0 Tryz.underlying36 rfl info_ansS) rfl ?_
      exact ApE.of (r := (S, ad)) (ap_same HC0.out HGL.out HC1.out) q d R HQ.out HD.out (fun _ h => h) HRR.out HI.out HOK.out.client (Nat.le_add_right _ _) A2 ad.ids.length c2 B2 ad.took.length d2 rfl rfl rfl (HPZ.out.tail.up2.tail.up2.tail)
    case neg =>
    by_cases hold : c.req < dr
    case pos =>
      have HC1 := Lib.hid hold
      have HF := Lib.hid (failed_any 11 _ (HE.out.below HP1.out.belowW))
      go_wp2_with fail
      refine Calls.mono HF.out ?_
      rintro e w8 ⟨rfl, hB⟩
      have HP8 := Lib.hid (HP1.out.below hB).swap
      clear hB
      go_wp2_with ((with_reducible refine gate_store (t := 36) (p := 4) (v := .tmp 53) rfl ?_); refine wpList_store_row rfl 36 (.tmp 4) (.tmp 53) rfl rb #[.int .i64 11, .slice none 0 0, .slice none 0 0] rfl rfl 36 #[.int .i64 0, .slice none 0 0, .slice none 0 0] HP8.out.blk0 info_ansS rfl (by simp [Value.oneCell']) ?_)
      have HPZ := Lib.hid (HP8.out.setRowBlkS #[.int .i64 11, .slice none 0 0, .slice none 0 0])
      refine bodyPost_ret (results_cell_row rfl _ _ rb 36 #[.int .i64 11, .slice none 0 0, .slice none 0 0] (0, 0) _ rfl HPZ.out.blk0 Tryz.underlying36 rfl info_ansS) rfl ?_
      exact ApE.of (r := (S, .fail 11)) (ap_old HC0.out HGL.out HC1.out) q d R HQ.out HD.out (fun _ h => h) HRR.out HI.out HOK.out.client (Nat.le_add_right _ _) none 0 0 none 0 0 rfl rfl rfl ((HPZ.out.tail.tail.tail.nilRowS KTk 45).nilRowS (Kd.int .i64) 3)
    case neg =>
    have HC1 := Lib.hid (show dr < c.req by omega)
    have HAP := Lib.hid ((show Hp w0 W1 (ABlk sb (.cells #[.int .i64 S.now, .map (some mb), .map (some lb)] 93 (0, 0)) :: AMg KG encB mb (nb q) :: AQs q T :: AMg KI encD lb d :: ARs R :: ABlk rb (.cells #[.int .i64 0, .slice none 0 0, .slice none 0 0] 36 (0, 0)) :: ABlk cb (.cells (c.cells (.slice B nl db)) 32 (0, 0)) :: ABlk xb (.cells #[.int .i64 dr, .int .i64 ad.code, (.slice A0 n0 k0), (.slice B0 m0 e0)] 95 (0, 0)) :: Ps) from HP1.out.perm (by (repeat (first | (with_reducible exact List.Perm.refl _) | (with_reducible refine pb0 ?_) | (with_reducible refine pb1 ?_) | (with_reducible refine pb2 ?_) | (with_reducible refine pb3 ?_) | (with_reducible refine pb4 ?_) | (with_reducible refine pb5 ?_) | (with_reducible refine pb6 ?_) | (with_reducible refine pb7 ?_) | (with_reducible refine pb8 ?_) | (with_reducible refine pb9 ?_) | (with_reducible refine pb10 ?_) | (with_reducible refine pb11 ?_) | (with_reducible refine pb12 ?_) | (with_reducible refine pb13 ?_) | (with_reducible refine pb14 ?_) | (with_reducible refine pb15 ?_))))).shHappenC HREC.out HE.out HQ.out HI.out c B nl db (fun w1 h1 => HPB.out w1 h1.tail.tail.tail.tail.tail) HOK.out)
    go_wp2_with ((with_reducible refine gate_dst (N := 68) rfl ?_); refine wpList_load_row rfl 32 (.tmp 3) rfl cb rfl 32 (c.cells (.slice B nl db)) (0, 0) _ (HP1.out.blk2) Tryz.underlying32 rfl info_cmdS ?_)
    refine Calls.mono HAP.out ?_
    obtain ⟨⟨S', an⟩, hr⟩ : ∃ r, r = shHappen S c := ⟨_, rfl⟩
    have HR := Lib.hid hr
    clear hr
    have HAO := Lib.hid (shHappen_ok HI.out c).2.2
    have HSL := Lib.hid (shHappen_ok HI.out c).2.1
    rw [← HR.out] at HAO HSL
    rintro e w5 ⟨q', hq', hA⟩
    rw [← HR.out] at hq' hA
    obtain ⟨A1, n1, c1, B1, m1, d1, rfl, hn, hm, hP⟩ := hA
    dsimp only at hq' hn hm hP HAO HSL
    have HQ' := Lib.hid hq'
    have HN := Lib.hid hn
    have HM := Lib.hid hm
    clear hq' hn hm
    have HPa := Lib.hid (hP.alloc (.cells #[.int .i64 0, .slice none 0 0, .slice none 0 0] 36))
    clear hP
    obtain ⟨now', hnow⟩ : ∃ n, n = S'.now := ⟨_, rfl⟩
    rw [← hnow] at HPa
    have HNOW := Lib.hid hnow
    clear hnow
    go_upto_region 13 with ((with_reducible refine gate_store (t := 36) (p := 7) (v := .tmp 69) rfl ?_); refine wpList_store_row rfl 36 (.tmp 7) (.tmp 69) rfl w5.heap.size #[.int .i64 an.code, .slice A1 n1 c1, .slice B1 m1 d1] rfl rfl 36 #[.int .i64 0, .slice none 0 0, .slice none 0 0] HPa.out.blk0 info_ansS rfl (by simp [Value.oneCell']) ?_)
    have HPs := Lib.hid (HPa.out.setRowBlkS #[.int .i64 an.code, .slice A1 n1 c1, .slice B1 m1 d1])
    obtain ⟨ab, hab⟩ : ∃ k, k = w5.heap.size := ⟨_, rfl⟩
    rw [← hab] at HPs ⊢
    clear hab
    generalize (w5.alloc (.cells #[.int .i64 0, .slice none 0 0, .slice none 0 0] 36)).setRow ab #[.int .i64 an.code, .slice A1 n1 c1, .slice B1 m1 d1] = W2 at *
    have HPe := Lib.hid (HPs.out.below (Below.refl _ _).drew)
    clear HPs HPa
    refine start_ (n := 12) (S := fun w' => w'.heap[sb]? = some (.cells #[.int .i64 now', .map (some mb), .map (some lb)] 93 (0, 0)) ∧ w'.heap[cb]? = some (.cells (c.cells (.slice B nl db)) 32 (0, 0)) ∧ w'.heap[ab]? = some (.cells #[.int .i64 an.code, .slice A1 n1 c1, .slice B1 m1 d1] 36 (0, 0))) (ds := [11]) #[false, false, false, false, false, false, false, false, false, false, false, false] (by kernel_rfl) rfl rfl (⟨(HPe.out).tail.tail.tail.blk0, (HPe.out).tail.tail.tail.tail.tail.tail.tail.tail.blk1, (HPe.out).blk0⟩) (fun hHeld => ?_)
    generalize W2.drew = wd2 at *
    refine pure_ (i := 0) (N := (some 70)) (v := ?_) (a' := ?_) #[true, false, false, false, false, false, false, false, false, false, false, false] rfl rfl (by kernel_rfl) (fun _ _ _ h => h) (Or.inl ⟨by rfl, ?_⟩) ?_ ?_
    rotate_left
    · intro w'
      go_simp
      with_reducible rfl
    rotate_left
    · simp only [Act.put, List.setIfInBounds_toArray, List.set_cons_zero, List.set_cons_succ, i64_w, i32_w]
      rfl
    refine pure_ (i := 1) (N := (some 71)) (v := ?_) (a' := ?_) #[true, true, false, false, false, false, false, false, false, false, false, false] rfl rfl (by kernel_rfl) (fun _ _ _ h => h) (Or.inl ⟨by rfl, ?_⟩) ?_ ?_
    rotate_left
    · intro w'
      go_simp
      with_reducible rfl
    rotate_left
    · simp only [Act.put, List.setIfInBounds_toArray, List.set_cons_zero, List.set_cons_succ, i64_w, i32_w]
      rfl
    refine pure_ (i := 2) (N := (some 72)) (v := ?_) (a' := ?_) #[true, true, true, false, false, false, false, false, false, false, false, false] rfl rfl (by kernel_rfl) (fun _ _ _ h => h) (Or.inl ⟨by rfl, ?_⟩) ?_ ?_
    rotate_left
    · intro w'
      go_simp
      with_reducible rfl
    rotate_left
    · simp only [Act.put, List.setIfInBounds_toArray, List.set_cons_zero, List.set_cons_succ, i64_w, i32_w]
      rfl
    refine pure_ (i := 4) (N := (some 74)) (v := ?_) (a' := ?_) #[true, true, true, false, true, false, false, false, false, false, false, false] rfl rfl (by kernel_rfl) (fun _ _ _ h => h) (Or.inl ⟨by rfl, ?_⟩) ?_ ?_
    rotate_left
    · intro w'
      go_simp
      with_reducible rfl
    rotate_left
    · simp only [Act.put, List.setIfInBounds_toArray, List.set_cons_zero, List.set_cons_succ, i64_w, i32_w]
      rfl
    refine pure_ (i := 6) (N := (some 76)) (v := ?_) (a' := ?_) #[true, true, true, false, true, false, true, false, false, false, false, false] rfl rfl (by kernel_rfl) (fun _ _ _ h => h) (Or.inl ⟨by rfl, ?_⟩) ?_ ?_
    rotate_left
    · intro w'
      go_simp
      with_reducible rfl
    rotate_left
    · simp only [Act.put, List.setIfInBounds_toArray, List.set_cons_zero, List.set_cons_succ, i64_w, i32_w]
      rfl
    refine take_ (i := 3) (N := (some 73)) (v := ?_) (a' := ?_) #[true, true, true, true, true, false, true, false, false, false, false, false] rfl rfl (by kernel_rfl) (fun _ _ _ h => h) (Or.inl ⟨by rfl, ?_⟩) hHeld ?_ ?_
    rotate_left
    · rintro w' ⟨hh, -, -⟩
      have g2 := blk_cell hh 2; simp only [List.getElem?_toArray, List.getElem?_cons_zero, List.getElem?_cons_succ] at g2
      go_simp
      with_reducible rfl
    rotate_left
    · simp only [Act.put, List.setIfInBounds_toArray, List.set_cons_zero, List.set_cons_succ, i64_w, i32_w]
      rfl
    refine take_ (i := 5) (N := (some 75)) (v := ?_) (a' := ?_) #[true, true, true, true, true, true, true, false, false, false, false, false] rfl rfl (by kernel_rfl) (fun _ _ _ h => h) (Or.inl ⟨by rfl, ?_⟩) hHeld ?_ ?_
    rotate_left
    · rintro w' ⟨-, hh, -⟩
      have g0 : w'.cell? ⟨cb, 0, none⟩ = some (.int .i64 c.client) := blk_cell hh 0
      go_simp
      with_reducible rfl
    rotate_left
    · simp only [Act.put, List.setIfInBounds_toArray, List.set_cons_zero, List.set_cons_succ, i64_w, i32_w]
      rfl
    refine take_ (i := 7) (N := (some 77)) (v := ?_) (a' := ?_) #[true, true, true, true, true, true, true, true, false, false, false, false] rfl rfl (by kernel_rfl) (fun _ _ _ h => h) (Or.inl ⟨by rfl, ?_⟩) hHeld ?_ ?_
    rotate_left
    · rintro w' ⟨-, hh, -⟩
      have g0 : w'.cell? ⟨cb, 1, none⟩ = some (.int .i64 c.req) := blk_cell hh 1
      go_simp
      with_reducible rfl
    rotate_left
    · simp only [Act.put, List.setIfInBounds_toArray, List.set_cons_zero, List.set_cons_succ, i64_w, i32_w]
      rfl
    refine take_ (i := 8) (N := (some 78)) (v := ?_) (a' := ?_) #[true, true, true, true, true, true, true, true, true, false, false, false] rfl rfl (by kernel_rfl) (fun _ _ _ h => h) (Or.inl ⟨by rfl, ?_⟩) hHeld ?_ ?_
    rotate_left
    · rintro w' ⟨-, -, hh⟩
      obtain ⟨z0, z1, z2, zf⟩ := blkA3 hh
      go_simp
      with_reducible rfl
    rotate_left
    · simp only [Act.put, List.setIfInBounds_toArray, List.set_cons_zero, List.set_cons_succ, i64_w, i32_w]
      rfl
    refine one_ (i := 9) (N := (some 79)) #[true, true, true, true, true, true, true, true, true, true, false, false] rfl rfl (by kernel_rfl) (by decide) (fun K hK => ?_)
    refine goes_ Tryz.func39 (by kernel_rfl) rfl #[.agg #[.int .i64 an.code, .slice A1 n1 c1, .slice B1 m1 d1]] (by rfl) rfl rfl (by first | rfl | (go_simp; done) | (simp [Act.eval]; done) | (simp [Act.eval]; rfl)) ?_
    obtain ⟨aI1, aI2, aI3⟩ := Kd.R_reads' HPe.out.tail.head
    obtain ⟨aT1, aT2, aT3⟩ := Kd.R_reads' HPe.out.tail.tail.head
    have HOWN := own_any' an.code an.ids an.took A1 n1 c1 B1 m1 d1 wd2 HN.out HM.out aI3 aI2 aT3 aT2 (by have := HAO.out.1; omega) (by have := HAO.out.2; omega)
    clear aI1 aI2 aI3 aT1 aT2 aT3
    refine Calls.mono HOWN ?_
    rintro e w7 ⟨A2, c2, B2, d2, rfl, hJ⟩
    have HPj := Lib.hid (HPe.out.join2 hJ)
    clear hJ HOWN
    refine ⟨_, rfl, ?_⟩
    refine hK.out _ _ (⟨(HPj.out.tail.tail).tail.tail.tail.blk0, (HPj.out.tail.tail).tail.tail.tail.tail.tail.tail.tail.tail.blk1, (HPj.out.tail.tail).blk0⟩) (fun hHeld => ?_)
    clear hK K
    refine norm_ (a' := ?_) ?_ ?_
    rotate_left
    · show Act.put _ (some 79) _ = _
      simp only [Act.put, List.setIfInBounds_toArray, List.set_cons_zero, List.set_cons_succ, i64_w, i32_w]
      rfl
    refine pure_ (i := 10) (N := (some 80)) (v := ?_) (a' := ?_) #[true, true, true, true, true, true, true, true, true, true, true, false] rfl rfl (by kernel_rfl) (fun _ _ _ h => h) (Or.inl ⟨by rfl, ?_⟩) ?_ ?_
    rotate_left
    · intro w'
      go_simp
      with_reducible rfl
    rotate_left
    · simp only [Act.put, List.setIfInBounds_toArray, List.set_cons_zero, List.set_cons_succ, i64_w, i32_w]
      rfl
    obtain ⟨w8, hrun, hM, hBB⟩ := MapAt.put (K := KI) (enc := encD) HPj.out.up8s.mgUse.1 under_dm HDL.out HOK.out.client (c.req, (an, (.slice A2 an.ids.length c2, .slice B2 an.took.length d2)))
    refine last_ (i := 11) (N := none) #[true, true, true, true, true, true, true, true, true, true, true, true] rfl rfl (by kernel_rfl) (by decide) (fun K hK => ?_)
    refine skip_ (w1 := w8) (by rfl) rfl (by go_simp; rw [show (Instr.mapUpdate 91 (.map (some lb)) (.int .i64 c.client) (.agg #[.int .i64 c.req, .int .i64 an.code, .slice A2 an.ids.length c2, .slice B2 an.took.length d2])).run Tryz.prog w7 = .ok () w8 from hrun]; rfl) ?_
    have HPk := Lib.hid (HPj.out.up8s.mgUse.2 w8 _ hM hBB)
    clear hrun hM hBB
    refine hK.out _ _ ?_
    clear hK K
    refine done_ (by kernel_rfl) ?_
    have HP9 := Lib.hid (show Hp w0 w8 (ABlk rb (.cells #[.int .i64 0, .slice none 0 0, .slice none 0 0] 36 (0, 0)) :: ABlk ab (.cells #[.int .i64 an.code, .slice A1 n1 c1, .slice B1 m1 d1] 36 (0, 0)) :: AInt (.slice A1 n1 c1) an.ids :: ATk (.slice B1 m1 d1) an.took :: ABlk sb (.cells #[.int .i64 now', .map (some mb), .map (some lb)] 93 (0, 0)) :: AMg KG encB mb (nb q') :: AQs q' (T + shGrow S c) :: AMg KI encD lb (mput d c.client (c.req, (an, (.slice A2 an.ids.length c2, .slice B2 an.took.length d2)))) :: ARs R :: AInt (.slice A2 an.ids.length c2) an.ids :: ATk (.slice B2 an.took.length d2) an.took :: ABlk cb (.cells (c.cells (.slice B nl db)) 32 (0, 0)) :: ABlk xb (.cells #[.int .i64 dr, .int .i64 ad.code, (.slice A0 n0 k0), (.slice B0 m0 e0)] 95 (0, 0)) :: Ps) from HPk.out.perm (by (repeat (first | (with_reducible exact List.Perm.refl _) | (with_reducible refine pb0 ?_) | (with_reducible refine pb1 ?_) | (with_reducible refine pb2 ?_) | (with_reducible refine pb3 ?_) | (with_reducible refine pb4 ?_) | (with_reducible refine pb5 ?_) | (with_reducible refine pb6 ?_) | (with_reducible refine pb7 ?_) | (with_reducible refine pb8 ?_) | (with_reducible refine pb9 ?_) | (with_reducible refine pb10 ?_) | (with_reducible refine pb11 ?_) | (with_reducible refine pb12 ?_) | (with_reducible refine pb13 ?_) | (with_reducible refine pb14 ?_) | (with_reducible refine pb15 ?_)))))
    go_wp2_with first | ((with_reducible refine gate_dst (N := 81) rfl ?_); refine wpList_load_row rfl 36 (.tmp 7) rfl ab rfl 36 #[.int .i64 an.code, .slice A1 n1 c1, .slice B1 m1 d1] (0, 0) _ (HP9.out.blk1) Tryz.underlying36 rfl info_ansS ?_) | ((with_reducible refine gate_store (t := 36) (p := 4) (v := .tmp 81) rfl ?_); refine wpList_store_row rfl 36 (.tmp 4) (.tmp 81) rfl rb #[.int .i64 an.code, .slice A1 n1 c1, .slice B1 m1 d1] rfl rfl 36 #[.int .i64 0, .slice none 0 0, .slice none 0 0] HP9.out.blk0 info_ansS rfl (by simp [Value.oneCell']) ?_)
    have HPZ := Lib.hid (HP9.out.setRowBlkS #[.int .i64 an.code, .slice A1 n1 c1, .slice B1 m1 d1])
    refine bodyPost_ret (results_cell_row rfl _ _ rb 36 #[.int .i64 an.code, .slice A1 n1 c1, .slice B1 m1 d1] (0, 0) _ rfl HPZ.out.blk0 Tryz.underlying36 rfl info_ansS) rfl ?_
    obtain ⟨d', hd1, hd2, hd3⟩ := keep_some HD.out HDND.out HGD.out (c.req, (an, (.slice A2 an.ids.length c2, .slice B2 an.took.length d2)))
    refine ApE.of (mb := mb) (lb := lb) (r := shKeep (S', an) c) ((ap_keep_some HC0.out HGL.out HC1.out).trans (by rw [← HR.out])) q' d' ((c.req, (an, (.slice A2 an.ids.length c2, .slice B2 an.took.length d2))) :: R) HQ'.out (hd1.trans (by show _ = lput S'.last c.client (c.req, an); rw [HSL.out])) (fun _ h => List.mem_cons_of_mem _ h) (fun p hp => (hd3 p hp).elim (fun e => by rw [e]; exact List.mem_cons_self) (fun h => List.mem_cons_of_mem _ (HRR.out p h))) HI.out HOK.out.client (Nat.le_refl _) A1 n1 c1 B1 m1 d1 rfl HN.out HM.out ?_
    have h1 : Hp w0 _ (ADe (c.req, (an, (.slice A2 an.ids.length c2, .slice B2 an.took.length d2))) :: ARs R :: AMg KI encD lb (mput d c.client (c.req, (an, (.slice A2 an.ids.length c2, .slice B2 an.took.length d2)))) :: AInt (.slice A1 n1 c1) an.ids :: ATk (.slice B1 m1 d1) an.took :: ABlk sb (.cells #[.int .i64 now', .map (some mb), .map (some lb)] 93 (0, 0)) :: AMg KG encB mb (nb q') :: AQs q' (T + shGrow S c) :: Ps) := Hp.deShut ((HPZ.out.tail.tail.perm (show List.Perm _ (ABlk cb (.cells (c.cells (.slice B nl db)) 32 (0, 0)) :: ABlk xb (.cells #[.int .i64 dr, .int .i64 ad.code, (.slice A0 n0 k0), (.slice B0 m0 e0)] 95 (0, 0)) :: AInt (.slice A2 an.ids.length c2) an.ids :: ATk (.slice B2 an.took.length d2) an.took :: ARs R :: AMg KI encD lb (mput d c.client (c.req, (an, (.slice A2 an.ids.length c2, .slice B2 an.took.length d2)))) :: AInt (.slice A1 n1 c1) an.ids :: ATk (.slice B1 m1 d1) an.took :: ABlk sb (.cells #[.int .i64 now', .map (some mb), .map (some lb)] 93 (0, 0)) :: AMg KG encB mb (nb q') :: AQs q' (T + shGrow S c) :: Ps) by (repeat (first | (with_reducible exact List.Perm.refl _) | (with_reducible refine pb0 ?_) | (with_reducible refine pb1 ?_) | (with_reducible refine pb2 ?_) | (with_reducible refine pb3 ?_) | (with_reducible refine pb4 ?_) | (with_reducible refine pb5 ?_) | (with_reducible refine pb6 ?_) | (with_reducible refine pb7 ?_) | (with_reducible refine pb8 ?_) | (with_reducible refine pb9 ?_) | (with_reducible refine pb10 ?_) | (with_reducible refine pb11 ?_) | (with_reducible refine pb12 ?_) | (with_reducible refine pb13 ?_) | (with_reducible refine pb14 ?_) | (with_reducible refine pb15 ?_))))).tail.tail)
    have h2 := h1.rsPut.swap.mgPerm hd2
    dsimp only [shKeep]
    rw [← HNOW.out]
    exact h2.perm (by (repeat (first | (with_reducible exact List.Perm.refl _) | (with_reducible refine pb0 ?_) | (with_reducible refine pb1 ?_) | (with_reducible refine pb2 ?_) | (with_reducible refine pb3 ?_) | (with_reducible refine pb4 ?_) | (with_reducible refine pb5 ?_) | (with_reducible refine pb6 ?_) | (with_reducible refine pb7 ?_) | (with_reducible refine pb8 ?_) | (with_reducible refine pb9 ?_) | (with_reducible refine pb10 ?_) | (with_reducible refine pb11 ?_) | (with_reducible refine pb12 ?_) | (with_reducible refine pb13 ?_) | (with_reducible refine pb14 ?_) | (with_reducible refine pb15 ?_))))
  | none =>
    have e1 : isd = false := by rw [HISD.out, hgd]; rfl
    subst e1
    have HGD := Lib.hid hgd
    have HGL := Lib.hid (show mget S.last c.client = none by rw [← HD.out, ld_get, hgd]; rfl)
    clear hgd
    have hlen := (HP1.out.perm (show List.Perm _ (AMg KI encD lb d :: _) from List.perm_middle (l₁ := [_, _, _, _, _, _]))).mgUse.1.len under_dm 3
    have hdl : d.length = S.last.length := by rw [← HD.out, ld_len]
    rw [hdl] at hlen
    clear hdl
    by_cases hfull : 64 ≤ S.last.length
    case pos =>
      have HC1 := Lib.hid hfull
      have hf2 : (64 : Int) ≤ (S.last.length : Int) := by omega
      have HF := Lib.hid (failed_any 5 _ (HE.out.below HP1.out.belowW))
      go_wp2_with fail
      refine Calls.mono HF.out ?_
      rintro e w8 ⟨rfl, hB⟩
      have HP8 := Lib.hid (HP1.out.below hB).swap
      clear hB
      go_wp2_with ((with_reducible refine gate_store (t := 36) (p := 4) (v := .tmp 66) rfl ?_); refine wpList_store_row rfl 36 (.tmp 4) (.tmp 66) rfl rb #[.int .i64 5, .slice none 0 0, .slice none 0 0] rfl rfl 36 #[.int .i64 0, .slice none 0 0, .slice none 0 0] HP8.out.blk0 info_ansS rfl (by simp [Value.oneCell']) ?_)
      have HPZ := Lib.hid (HP8.out.setRowBlkS #[.int .i64 5, .slice none 0 0, .slice none 0 0])
      refine bodyPost_ret (results_cell_row rfl _ _ rb 36 #[.int .i64 5, .slice none 0 0, .slice none 0 0] (0, 0) _ rfl HPZ.out.blk0 Tryz.underlying36 rfl info_ansS) rfl ?_
      exact ApE.of (r := (S, .fail 5)) (ap_full HC0.out HGL.out HC1.out) q d R HQ.out HD.out (fun _ h => h) HRR.out HI.out HOK.out.client (Nat.le_add_right _ _) none 0 0 none 0 0 rfl rfl rfl ((HPZ.out.tail.tail.tail.nilRowS KTk 45).nilRowS (Kd.int .i64) 3)
    case neg =>
    have HC1 := Lib.hid (show S.last.length < 64 by omega)
    have hf2 : ¬ (64 : Int) ≤ (S.last.length : Int) := by omega
    have HAP := Lib.hid ((show Hp w0 W1 (ABlk sb (.cells #[.int .i64 S.now, .map (some mb), .map (some lb)] 93 (0, 0)) :: AMg KG encB mb (nb q) :: AQs q T :: AMg KI encD lb d :: ARs R :: ABlk rb (.cells #[.int .i64 0, .slice none 0 0, .slice none 0 0] 36 (0, 0)) :: ABlk cb (.cells (c.cells (.slice B nl db)) 32 (0, 0)) :: ABlk xb (.cells #[.int .i64 dr, .int .i64 ad.code, (.slice A0 n0 k0), (.slice B0 m0 e0)] 95 (0, 0)) :: Ps) from HP1.out.perm (by (repeat (first | (with_reducible exact List.Perm.refl _) | (with_reducible refine pb0 ?_) | (with_reducible refine pb1 ?_) | (with_reducible refine pb2 ?_) | (with_reducible refine pb3 ?_) | (with_reducible refine pb4 ?_) | (with_reducible refine pb5 ?_) | (with_reducible refine pb6 ?_) | (with_reducible refine pb7 ?_) | (with_reducible refine pb8 ?_) | (with_reducible refine pb9 ?_) | (with_reducible refine pb10 ?_) | (with_reducible refine pb11 ?_) | (with_reducible refine pb12 ?_) | (with_reducible refine pb13 ?_) | (with_reducible refine pb14 ?_) | (with_reducible refine pb15 ?_))))).shHappenC HREC.out HE.out HQ.out HI.out c B nl db (fun w1 h1 => HPB.out w1 h1.tail.tail.tail.tail.tail) HOK.out)
    go_wp2_with ((with_reducible refine gate_dst (N := 68) rfl ?_); refine wpList_load_row rfl 32 (.tmp 3) rfl cb rfl 32 (c.cells (.slice B nl db)) (0, 0) _ (HP1.out.blk2) Tryz.underlying32 rfl info_cmdS ?_)
    refine Calls.mono HAP.out ?_
    obtain ⟨⟨S', an⟩, hr⟩ : ∃ r, r = shHappen S c := ⟨_, rfl⟩
    have HR := Lib.hid hr
    clear hr
    have HAO := Lib.hid (shHappen_ok HI.out c).2.2
    have HSL := Lib.hid (shHappen_ok HI.out c).2.1
    rw [← HR.out] at HAO HSL
    rintro e w5 ⟨q', hq', hA⟩
    rw [← HR.out] at hq' hA
    obtain ⟨A1, n1, c1, B1, m1, d1, rfl, hn, hm, hP⟩ := hA
    dsimp only at hq' hn hm hP HAO HSL
    have HQ' := Lib.hid hq'
    have HN := Lib.hid hn
    have HM := Lib.hid hm
    clear hq' hn hm
    have HPa := Lib.hid (hP.alloc (.cells #[.int .i64 0, .slice none 0 0, .slice none 0 0] 36))
    clear hP
    obtain ⟨now', hnow⟩ : ∃ n, n = S'.now := ⟨_, rfl⟩
    rw [← hnow] at HPa
    have HNOW := Lib.hid hnow
    clear hnow
    go_upto_region 13 with ((with_reducible refine gate_store (t := 36) (p := 7) (v := .tmp 69) rfl ?_); refine wpList_store_row rfl 36 (.tmp 7) (.tmp 69) rfl w5.heap.size #[.int .i64 an.code, .slice A1 n1 c1, .slice B1 m1 d1] rfl rfl 36 #[.int .i64 0, .slice none 0 0, .slice none 0 0] HPa.out.blk0 info_ansS rfl (by simp [Value.oneCell']) ?_)
    have HPs := Lib.hid (HPa.out.setRowBlkS #[.int .i64 an.code, .slice A1 n1 c1, .slice B1 m1 d1])
    obtain ⟨ab, hab⟩ : ∃ k, k = w5.heap.size := ⟨_, rfl⟩
    rw [← hab] at HPs ⊢
    clear hab
    generalize (w5.alloc (.cells #[.int .i64 0, .slice none 0 0, .slice none 0 0] 36)).setRow ab #[.int .i64 an.code, .slice A1 n1 c1, .slice B1 m1 d1] = W2 at *
    have HPe := Lib.hid (HPs.out.below (Below.refl _ _).drew)
    clear HPs HPa
    refine start_ (n := 12) (S := fun w' => w'.heap[sb]? = some (.cells #[.int .i64 now', .map (some mb), .map (some lb)] 93 (0, 0)) ∧ w'.heap[cb]? = some (.cells (c.cells (.slice B nl db)) 32 (0, 0)) ∧ w'.heap[ab]? = some (.cells #[.int .i64 an.code, .slice A1 n1 c1, .slice B1 m1 d1] 36 (0, 0))) (ds := [11]) #[false, false, false, false, false, false, false, false, false, false, false, false] (by kernel_rfl) rfl rfl (⟨(HPe.out).tail.tail.tail.blk0, (HPe.out).tail.tail.tail.tail.tail.tail.tail.tail.blk1, (HPe.out).blk0⟩) (fun hHeld => ?_)
    generalize W2.drew = wd2 at *
    refine pure_ (i := 0) (N := (some 70)) (v := ?_) (a' := ?_) #[true, false, false, false, false, false, false, false, false, false, false, false] rfl rfl (by kernel_rfl) (fun _ _ _ h => h) (Or.inl ⟨by rfl, ?_⟩) ?_ ?_
    rotate_left
    · intro w'
      go_simp
      with_reducible rfl
    rotate_left
    · simp only [Act.put, List.setIfInBounds_toArray, List.set_cons_zero, List.set_cons_succ, i64_w, i32_w]
      rfl
    refine pure_ (i := 1) (N := (some 71)) (v := ?_) (a' := ?_) #[true, true, false, false, false, false, false, false, false, false, false, false] rfl rfl (by kernel_rfl) (fun _ _ _ h => h) (Or.inl ⟨by rfl, ?_⟩) ?_ ?_
    rotate_left
    · intro w'
      go_simp
      with_reducible rfl
    rotate_left
    · simp only [Act.put, List.setIfInBounds_toArray, List.set_cons_zero, List.set_cons_succ, i64_w, i32_w]
      rfl
    refine pure_ (i := 2) (N := (some 72)) (v := ?_) (a' := ?_) #[true, true, true, false, false, false, false, false, false, false, false, false] rfl rfl (by kernel_rfl) (fun _ _ _ h => h) (Or.inl ⟨by rfl, ?_⟩) ?_ ?_
    rotate_left
    · intro w'
      go_simp
      with_reducible rfl
    rotate_left
    · simp only [Act.put, List.setIfInBounds_toArray, List.set_cons_zero, List.set_cons_succ, i64_w, i32_w]
      rfl
    refine pure_ (i := 4) (N := (some 74)) (v := ?_) (a' := ?_) #[true, true, true, false, true, false, false, false, false, false, false, false] rfl rfl (by kernel_rfl) (fun _ _ _ h => h) (Or.inl ⟨by rfl, ?_⟩) ?_ ?_
    rotate_left
    · intro w'
      go_simp
      with_reducible rfl
    rotate_left
    · simp only [Act.put, List.setIfInBounds_toArray, List.set_cons_zero, List.set_cons_succ, i64_w, i32_w]
      rfl
    refine pure_ (i := 6) (N := (some 76)) (v := ?_) (a' := ?_) #[true, true, true, false, true, false, true, false, false, false, false, false] rfl rfl (by kernel_rfl) (fun _ _ _ h => h) (Or.inl ⟨by rfl, ?_⟩) ?_ ?_
    rotate_left
    · intro w'
      go_simp
      with_reducible rfl
    rotate_left
    · simp only [Act.put, List.setIfInBounds_toArray, List.set_cons_zero, List.set_cons_succ, i64_w, i32_w]
      rfl
    refine take_ (i := 3) (N := (some 73)) (v := ?_) (a' := ?_) #[true, true, true, true, true, false, true, false, false, false, false, false] rfl rfl (by kernel_rfl) (fun _ _ _ h => h) (Or.inl ⟨by rfl, ?_⟩) hHeld ?_ ?_
    rotate_left
    · rintro w' ⟨hh, -, -⟩
      have g2 := blk_cell hh 2; simp only [List.getElem?_toArray, List.getElem?_cons_zero, List.getElem?_cons_succ] at g2
      go_simp
      with_reducible rfl
    rotate_left
    · simp only [Act.put, List.setIfInBounds_toArray, List.set_cons_zero, List.set_cons_succ, i64_w, i32_w]
      rfl
    refine take_ (i := 5) (N := (some 75)) (v := ?_) (a' := ?_) #[true, true, true, true, true, true, true, false, false, false, false, false] rfl rfl (by kernel_rfl) (fun _ _ _ h => h) (Or.inl ⟨by rfl, ?_⟩) hHeld ?_ ?_
    rotate_left
    · rintro w' ⟨-, hh, -⟩
      have g0 : w'.cell? ⟨cb, 0, none⟩ = some (.int .i64 c.client) := blk_cell hh 0
      go_simp
      with_reducible rfl
    rotate_left
    · simp only [Act.put, List.setIfInBounds_toArray, List.set_cons_zero, List.set_cons_succ, i64_w, i32_w]
      rfl
    refine take_ (i := 7) (N := (some 77)) (v := ?_) (a' := ?_) #[true, true, true, true, true, true, true, true, false, false, false, false] rfl rfl (by kernel_rfl) (fun _ _ _ h => h) (Or.inl ⟨by rfl, ?_⟩) hHeld ?_ ?_
    rotate_left
    · rintro w' ⟨-, hh, -⟩
      have g0 : w'.cell? ⟨cb, 1, none⟩ = some (.int .i64 c.req) := blk_cell hh 1
      go_simp
      with_reducible rfl
    rotate_left
    · simp only [Act.put, List.setIfInBounds_toArray, List.set_cons_zero, List.set_cons_succ, i64_w, i32_w]
      rfl
    refine take_ (i := 8) (N := (some 78)) (v := ?_) (a' := ?_) #[true, true, true, true, true, true, true, true, true, false, false, false] rfl rfl (by kernel_rfl) (fun _ _ _ h => h) (Or.inl ⟨by rfl, ?_⟩) hHeld ?_ ?_
    rotate_left
    · rintro w' ⟨-, -, hh⟩
      obtain ⟨z0, z1, z2, zf⟩ := blkA3 hh
      go_simp
      with_reducible rfl
    rotate_left
    · simp only [Act.put, List.setIfInBounds_toArray, List.set_cons_zero, List.set_cons_succ, i64_w, i32_w]
      rfl
    refine one_ (i := 9) (N := (some 79)) #[true, true, true, true, true, true, true, true, true, true, false, false] rfl rfl (by kernel_rfl) (by decide) (fun K hK => ?_)
    refine goes_ Tryz.func39 (by kernel_rfl) rfl #[.agg #[.int .i64 an.code, .slice A1 n1 c1, .slice B1 m1 d1]] (by rfl) rfl rfl (by first | rfl | (go_simp; done) | (simp [Act.eval]; done) | (simp [Act.eval]; rfl)) ?_
    obtain ⟨aI1, aI2, aI3⟩ := Kd.R_reads' HPe.out.tail.head
    obtain ⟨aT1, aT2, aT3⟩ := Kd.R_reads' HPe.out.tail.tail.head
    have HOWN := own_any' an.code an.ids an.took A1 n1 c1 B1 m1 d1 wd2 HN.out HM.out aI3 aI2 aT3 aT2 (by have := HAO.out.1; omega) (by have := HAO.out.2; omega)
    clear aI1 aI2 aI3 aT1 aT2 aT3
    refine Calls.mono HOWN ?_
    rintro e w7 ⟨A2, c2, B2, d2, rfl, hJ⟩
    have HPj := Lib.hid (HPe.out.join2 hJ)
    clear hJ HOWN
    refine ⟨_, rfl, ?_⟩
    refine hK.out _ _ (⟨(HPj.out.tail.tail).tail.tail.tail.blk0, (HPj.out.tail.tail).tail.tail.tail.tail.tail.tail.tail.tail.blk1, (HPj.out.tail.tail).blk0⟩) (fun hHeld => ?_)
    clear hK K
    refine norm_ (a' := ?_) ?_ ?_
    rotate_left
    · show Act.put _ (some 79) _ = _
      simp only [Act.put, List.setIfInBounds_toArray, List.set_cons_zero, List.set_cons_succ, i64_w, i32_w]
      rfl
    refine pure_ (i := 10) (N := (some 80)) (v := ?_) (a' := ?_) #[true, true, true, true, true, true, true, true, true, true, true, false] rfl rfl (by kernel_rfl) (fun _ _ _ h => h) (Or.inl ⟨by rfl, ?_⟩) ?_ ?_
    rotate_left
    · intro w'
      go_simp
      with_reducible rfl
    rotate_left
    · simp only [Act.put, List.setIfInBounds_toArray, List.set_cons_zero, List.set_cons_succ, i64_w, i32_w]
      rfl
    obtain ⟨w8, hrun, hM, hBB⟩ := MapAt.put (K := KI) (enc := encD) HPj.out.up8s.mgUse.1 under_dm HDL.out HOK.out.client (c.req, (an, (.slice A2 an.ids.length c2, .slice B2 an.took.length d2)))
    refine last_ (i := 11) (N := none) #[true, true, true, true, true, true, true, true, true, true, true, true] rfl rfl (by kernel_rfl) (by decide) (fun K hK => ?_)
    refine skip_ (w1 := w8) (by rfl) rfl (by go_simp; rw [show (Instr.mapUpdate 91 (.map (some lb)) (.int .i64 c.client) (.agg #[.int .i64 c.req, .int .i64 an.code, .slice A2 an.ids.length c2, .slice B2 an.took.length d2])).run Tryz.prog w7 = .ok () w8 from hrun]; rfl) ?_
    have HPk := Lib.hid (HPj.out.up8s.mgUse.2 w8 _ hM hBB)
    clear hrun hM hBB
    refine hK.out _ _ ?_
    clear hK K
    refine done_ (by kernel_rfl) ?_
    have HP9 := Lib.hid (show Hp w0 w8 (ABlk rb (.cells #[.int .i64 0, .slice none 0 0, .slice none 0 0] 36 (0, 0)) :: ABlk ab (.cells #[.int .i64 an.code, .slice A1 n1 c1, .slice B1 m1 d1] 36 (0, 0)) :: AInt (.slice A1 n1 c1) an.ids :: ATk (.slice B1 m1 d1) an.took :: ABlk sb (.cells #[.int .i64 now', .map (some mb), .map (some lb)] 93 (0, 0)) :: AMg KG encB mb (nb q') :: AQs q' (T + shGrow S c) :: AMg KI encD lb (mput d c.client (c.req, (an, (.slice A2 an.ids.length c2, .slice B2 an.took.length d2)))) :: ARs R :: AInt (.slice A2 an.ids.length c2) an.ids :: ATk (.slice B2 an.took.length d2) an.took :: ABlk cb (.cells (c.cells (.slice B nl db)) 32 (0, 0)) :: ABlk xb (.cells #[.int .i64 dr, .int .i64 ad.code, (.slice A0 n0 k0), (.slice B0 m0 e0)] 95 (0, 0)) :: Ps) from HPk.out.perm (by (repeat (first | (with_reducible exact List.Perm.refl _) | (with_reducible refine pb0 ?_) | (with_reducible refine pb1 ?_) | (with_reducible refine pb2 ?_) | (with_reducible refine pb3 ?_) | (with_reducible refine pb4 ?_) | (with_reducible refine pb5 ?_) | (with_reducible refine pb6 ?_) | (with_reducible refine pb7 ?_) | (with_reducible refine pb8 ?_) | (with_reducible refine pb9 ?_) | (with_reducible refine pb10 ?_) | (with_reducible refine pb11 ?_) | (with_reducible refine pb12 ?_) | (with_reducible refine pb13 ?_) | (with_reducible refine pb14 ?_) | (with_reducible refine pb15 ?_)))))
    go_wp2_with first | ((with_reducible refine gate_dst (N := 81) rfl ?_); refine wpList_load_row rfl 36 (.tmp 7) rfl ab rfl 36 #[.int .i64 an.code, .slice A1 n1 c1, .slice B1 m1 d1] (0, 0) _ (HP9.out.blk1) Tryz.underlying36 rfl info_ansS ?_) | ((with_reducible refine gate_store (t := 36) (p := 4) (v := .tmp 81) rfl ?_); refine wpList_store_row rfl 36 (.tmp 4) (.tmp 81) rfl rb #[.int .i64 an.code, .slice A1 n1 c1, .slice B1 m1 d1] rfl rfl 36 #[.int .i64 0, .slice none 0 0, .slice none 0 0] HP9.out.blk0 info_ansS rfl (by simp [Value.oneCell']) ?_)
    have HPZ := Lib.hid (HP9.out.setRowBlkS #[.int .i64 an.code, .slice A1 n1 c1, .slice B1 m1 d1])
    refine bodyPost_ret (results_cell_row rfl _ _ rb 36 #[.int .i64 an.code, .slice A1 n1 c1, .slice B1 m1 d1] (0, 0) _ rfl HPZ.out.blk0 Tryz.underlying36 rfl info_ansS) rfl ?_
    obtain ⟨d', hd1, hd2, hd3⟩ := keep_none HD.out HGD.out (c.req, (an, (.slice A2 an.ids.length c2, .slice B2 an.took.length d2)))
    refine ApE.of (mb := mb) (lb := lb) (r := shKeep (S', an) c) ((ap_keep_none HC0.out HGL.out HC1.out).trans (by rw [← HR.out])) q' d' ((c.req, (an, (.slice A2 an.ids.length c2, .slice B2 an.took.length d2))) :: R) HQ'.out (hd1.trans (by show _ = lput S'.last c.client (c.req, an); rw [HSL.out])) (fun _ h => List.mem_cons_of_mem _ h) (fun p hp => (hd3 p hp).elim (fun e => by rw [e]; exact List.mem_cons_self) (fun h => List.mem_cons_of_mem _ (HRR.out p h))) HI.out HOK.out.client (Nat.le_refl _) A1 n1 c1 B1 m1 d1 rfl HN.out HM.out ?_
    have h1 : Hp w0 _ (ADe (c.req, (an, (.slice A2 an.ids.length c2, .slice B2 an.took.length d2))) :: ARs R :: AMg KI encD lb (mput d c.client (c.req, (an, (.slice A2 an.ids.length c2, .slice B2 an.took.length d2)))) :: AInt (.slice A1 n1 c1) an.ids :: ATk (.slice B1 m1 d1) an.took :: ABlk sb (.cells #[.int .i64 now', .map (some mb), .map (some lb)] 93 (0, 0)) :: AMg KG encB mb (nb q') :: AQs q' (T + shGrow S c) :: Ps) := Hp.deShut ((HPZ.out.tail.tail.perm (show List.Perm _ (ABlk cb (.cells (c.cells (.slice B nl db)) 32 (0, 0)) :: ABlk xb (.cells #[.int .i64 dr, .int .i64 ad.code, (.slice A0 n0 k0), (.slice B0 m0 e0)] 95 (0, 0)) :: AInt (.slice A2 an.ids.length c2) an.ids :: ATk (.slice B2 an.took.length d2) an.took :: ARs R :: AMg KI encD lb (mput d c.client (c.req, (an, (.slice A2 an.ids.length c2, .slice B2 an.took.length d2)))) :: AInt (.slice A1 n1 c1) an.ids :: ATk (.slice B1 m1 d1) an.took :: ABlk sb (.cells #[.int .i64 now', .map (some mb), .map (some lb)] 93 (0, 0)) :: AMg KG encB mb (nb q') :: AQs q' (T + shGrow S c) :: Ps) by (repeat (first | (with_reducible exact List.Perm.refl _) | (with_reducible refine pb0 ?_) | (with_reducible refine pb1 ?_) | (with_reducible refine pb2 ?_) | (with_reducible refine pb3 ?_) | (with_reducible refine pb4 ?_) | (with_reducible refine pb5 ?_) | (with_reducible refine pb6 ?_) | (with_reducible refine pb7 ?_) | (with_reducible refine pb8 ?_) | (with_reducible refine pb9 ?_) | (with_reducible refine pb10 ?_) | (with_reducible refine pb11 ?_) | (with_reducible refine pb12 ?_) | (with_reducible refine pb13 ?_) | (with_reducible refine pb14 ?_) | (with_reducible refine pb15 ?_))))).tail.tail)
    have h2 := h1.rsPut.swap.mgPerm hd2
    dsimp only [shKeep]
    rw [← HNOW.out]
    exact h2.perm (by (repeat (first | (with_reducible exact List.Perm.refl _) | (with_reducible refine pb0 ?_) | (with_reducible refine pb1 ?_) | (with_reducible refine pb2 ?_) | (with_reducible refine pb3 ?_) | (with_reducible refine pb4 ?_) | (with_reducible refine pb5 ?_) | (with_reducible refine pb6 ?_) | (with_reducible refine pb7 ?_) | (with_reducible refine pb8 ?_) | (with_reducible refine pb9 ?_) | (with_reducible refine pb10 ?_) | (with_reducible refine pb11 ?_) | (with_reducible refine pb12 ?_) | (with_reducible refine pb13 ?_) | (with_reducible refine pb14 ?_) | (with_reducible refine pb15 ?_))))
end
end Go.Proofs.YtipdleiginnjmaaGreatDoor
