/- Put together: (*Shop).happen. · What holds of any shop holds behind each command. -/
import Derived.Test.YtipdleiginnjmaaGreatDoorH12
set_option linter.unusedVariables false
set_option linter.unusedSimpArgs false
set_option linter.unusedVariables false
set_option linter.unusedSimpArgs false
namespace Go.Proofs.YtipdleiginnjmaaGreatDoor
open Go.RowKit Go.Maps Go.Proofs.YtipdleiginnjmaaGreatDoorW.PrintWords
theorem pb0 {α : Type _} {l m : List α} {a : α} (h : List.Perm l (m)) : List.Perm (a :: l) (a :: m) := h.cons a
theorem pb1 {α : Type _} {l m : List α} {a x0 : α} (h : List.Perm l (x0 :: m)) : List.Perm (a :: l) (x0 :: a :: m) := (h.cons a).trans (List.perm_middle (l₁ := [x0])).symm
theorem pb2 {α : Type _} {l m : List α} {a x0 x1 : α} (h : List.Perm l (x0 :: x1 :: m)) : List.Perm (a :: l) (x0 :: x1 :: a :: m) := (h.cons a).trans (List.perm_middle (l₁ := [x0, x1])).symm
theorem pb3 {α : Type _} {l m : List α} {a x0 x1 x2 : α} (h : List.Perm l (x0 :: x1 :: x2 :: m)) : List.Perm (a :: l) (x0 :: x1 :: x2 :: a :: m) := (h.cons a).trans (List.perm_middle (l₁ := [x0, x1, x2])).symm
theorem pb4 {α : Type _} {l m : List α} {a x0 x1 x2 x3 : α} (h : List.Perm l (x0 :: x1 :: x2 :: x3 :: m)) : List.Perm (a :: l) (x0 :: x1 :: x2 :: x3 :: a :: m) := (h.cons a).trans (List.perm_middle (l₁ := [x0, x1, x2, x3])).symm
theorem pb5 {α : Type _} {l m : List α} {a x0 x1 x2 x3 x4 : α} (h : List.Perm l (x0 :: x1 :: x2 :: x3 :: x4 :: m)) : List.Perm (a :: l) (x0 :: x1 :: x2 :: x3 :: x4 :: a :: m) := (h.cons a).trans (List.perm_middle (l₁ := [x0, x1, x2, x3, x4])).symm
theorem pb6 {α : Type _} {l m : List α} {a x0 x1 x2 x3 x4 x5 : α} (h : List.Perm l (x0 :: x1 :: x2 :: x3 :: x4 :: x5 :: m)) : List.Perm (a :: l) (x0 :: x1 :: x2 :: x3 :: x4 :: x5 :: a :: m) := (h.cons a).trans (List.perm_middle (l₁ := [x0, x1, x2, x3, x4, x5])).symm
theorem pb7 {α : Type _} {l m : List α} {a x0 x1 x2 x3 x4 x5 x6 : α} (h : List.Perm l (x0 :: x1 :: x2 :: x3 :: x4 :: x5 :: x6 :: m)) : List.Perm (a :: l) (x0 :: x1 :: x2 :: x3 :: x4 :: x5 :: x6 :: a :: m) := (h.cons a).trans (List.perm_middle (l₁ := [x0, x1, x2, x3, x4, x5, x6])).symm
theorem pb8 {α : Type _} {l m : List α} {a x0 x1 x2 x3 x4 x5 x6 x7 : α} (h : List.Perm l (x0 :: x1 :: x2 :: x3 :: x4 :: x5 :: x6 :: x7 :: m)) : List.Perm (a :: l) (x0 :: x1 :: x2 :: x3 :: x4 :: x5 :: x6 :: x7 :: a :: m) := (h.cons a).trans (List.perm_middle (l₁ := [x0, x1, x2, x3, x4, x5, x6, x7])).symm
theorem pb9 {α : Type _} {l m : List α} {a x0 x1 x2 x3 x4 x5 x6 x7 x8 : α} (h : List.Perm l (x0 :: x1 :: x2 :: x3 :: x4 :: x5 :: x6 :: x7 :: x8 :: m)) : List.Perm (a :: l) (x0 :: x1 :: x2 :: x3 :: x4 :: x5 :: x6 :: x7 :: x8 :: a :: m) := (h.cons a).trans (List.perm_middle (l₁ := [x0, x1, x2, x3, x4, x5, x6, x7, x8])).symm
theorem pb10 {α : Type _} {l m : List α} {a x0 x1 x2 x3 x4 x5 x6 x7 x8 x9 : α} (h : List.Perm l (x0 :: x1 :: x2 :: x3 :: x4 :: x5 :: x6 :: x7 :: x8 :: x9 :: m)) : List.Perm (a :: l) (x0 :: x1 :: x2 :: x3 :: x4 :: x5 :: x6 :: x7 :: x8 :: x9 :: a :: m) := (h.cons a).trans (List.perm_middle (l₁ := [x0, x1, x2, x3, x4, x5, x6, x7, x8, x9])).symm
theorem pb11 {α : Type _} {l m : List α} {a x0 x1 x2 x3 x4 x5 x6 x7 x8 x9 x10 : α} (h : List.Perm l (x0 :: x1 :: x2 :: x3 :: x4 :: x5 :: x6 :: x7 :: x8 :: x9 :: x10 :: m)) : List.Perm (a :: l) (x0 :: x1 :: x2 :: x3 :: x4 :: x5 :: x6 :: x7 :: x8 :: x9 :: x10 :: a :: m) := (h.cons a).trans (List.perm_middle (l₁ := [x0, x1, x2, x3, x4, x5, x6, x7, x8, x9, x10])).symm
theorem pb12 {α : Type _} {l m : List α} {a x0 x1 x2 x3 x4 x5 x6 x7 x8 x9 x10 x11 : α} (h : List.Perm l (x0 :: x1 :: x2 :: x3 :: x4 :: x5 :: x6 :: x7 :: x8 :: x9 :: x10 :: x11 :: m)) : List.Perm (a :: l) (x0 :: x1 :: x2 :: x3 :: x4 :: x5 :: x6 :: x7 :: x8 :: x9 :: x10 :: x11 :: a :: m) := (h.cons a).trans (List.perm_middle (l₁ := [x0, x1, x2, x3, x4, x5, x6, x7, x8, x9, x10, x11])).symm
theorem pb13 {α : Type _} {l m : List α} {a x0 x1 x2 x3 x4 x5 x6 x7 x8 x9 x10 x11 x12 : α} (h : List.Perm l (x0 :: x1 :: x2 :: x3 :: x4 :: x5 :: x6 :: x7 :: x8 :: x9 :: x10 :: x11 :: x12 :: m)) : List.Perm (a :: l) (x0 :: x1 :: x2 :: x3 :: x4 :: x5 :: x6 :: x7 :: x8 :: x9 :: x10 :: x11 :: x12 :: a :: m) := (h.cons a).trans (List.perm_middle (l₁ := [x0, x1, x2, x3, x4, x5, x6, x7, x8, x9, x10, x11, x12])).symm
theorem pb14 {α : Type _} {l m : List α} {a x0 x1 x2 x3 x4 x5 x6 x7 x8 x9 x10 x11 x12 x13 : α} (h : List.Perm l (x0 :: x1 :: x2 :: x3 :: x4 :: x5 :: x6 :: x7 :: x8 :: x9 :: x10 :: x11 :: x12 :: x13 :: m)) : List.Perm (a :: l) (x0 :: x1 :: x2 :: x3 :: x4 :: x5 :: x6 :: x7 :: x8 :: x9 :: x10 :: x11 :: x12 :: x13 :: a :: m) := (h.cons a).trans (List.perm_middle (l₁ := [x0, x1, x2, x3, x4, x5, x6, x7, x8, x9, x10, x11, x12, x13])).symm
theorem pb15 {α : Type _} {l m : List α} {a x0 x1 x2 x3 x4 x5 x6 x7 x8 x9 x10 x11 x12 x13 x14 : α} (h : List.Perm l (x0 :: x1 :: x2 :: x3 :: x4 :: x5 :: x6 :: x7 :: x8 :: x9 :: x10 :: x11 :: x12 :: x13 :: x14 :: m)) : List.Perm (a :: l) (x0 :: x1 :: x2 :: x3 :: x4 :: x5 :: x6 :: x7 :: x8 :: x9 :: x10 :: x11 :: x12 :: x13 :: x14 :: a :: m) := (h.cons a).trans (List.perm_middle (l₁ := [x0, x1, x2, x3, x4, x5, x6, x7, x8, x9, x10, x11, x12, x13, x14])).symm
/-! the law's part -/
def shGrow (S : Sh) (c : Cm) : Nat := if c.kind = 0 then (tkMoves S.l c.n).length else 10
theorem hap_bad {S : Sh} {c : Cm} (h : c.kind < 0 ∨ 9 < c.kind) : shHappen S c = (S, .fail 1) := by unfold shHappen; rw [if_pos h]
theorem hap_0 {S : Sh} {c : Cm} (h : c.kind = 0) : shHappen S c = shTick S c.n := by unfold shHappen; rw [if_neg (by omega), if_pos h]
theorem hap_1 {S : Sh} {c : Cm} (h : c.kind = 1) : shHappen S c = shCreate S c := by unfold shHappen; rw [if_neg (by omega), if_neg (by omega), if_pos h]
theorem hap_no {S : Sh} {c : Cm} (h : 2 ≤ c.kind ∧ c.kind ≤ 9) (hg : mget S.l c.queue = none) : shHappen S c = (S, .fail 6) := by unfold shHappen; rw [if_neg (by omega), if_neg (by omega), if_neg (by omega), hg]
theorem hap_2 {S : Sh} {c : Cm} {σ : Qs} (h : c.kind = 2) (hg : mget S.l c.queue = some σ) : shHappen S c = ({ S with l := mdel S.l c.queue }, .nums [(σ.l.length : Int)]) := by
  unfold shHappen; rw [if_neg (by omega), if_neg (by omega), if_neg (by omega), hg]
  dsimp only
  rw [if_pos h]
theorem hap_of {S : Sh} {c : Cm} {σ : Qs} (h : 3 ≤ c.kind ∧ c.kind ≤ 9) (hg : mget S.l c.queue = some σ) : shHappen S c = ({ S with l := mupd S.l c.queue (shOf σ c).1 }, (shOf σ c).2) := by
  unfold shHappen; rw [if_neg (by omega), if_neg (by omega), if_neg (by omega), hg]
  dsimp only
  rw [if_neg (by omega)]
theorem tick_no {S : Sh} {n : Int} (h : n < S.now ∨ 1099511627776 < n) : shTick S n = (S, .fail 1) := by
  unfold shTick shMayTick
  rw [if_neg]
  rcases h with h | h <;> simp [h]
theorem tick_yes {S : Sh} {n : Int} (h : ¬ (n < S.now ∨ 1099511627776 < n)) : shTick S n = ({ S with now := n, l := (shMoves (tkAll S.l n) (tkMoves S.l n)).1 }, .nums [(shMoves (tkAll S.l n) (tkMoves S.l n)).2, ((tkMoves S.l n).length : Int) - (shMoves (tkAll S.l n) (tkMoves S.l n)).2, tkPast S.l n]) := by
  unfold shTick shMayTick
  rw [if_pos]
  simp [show ¬ n < S.now by omega, show ¬ 1099511627776 < n by omega]
theorem isS_q (q : List Qp) (k : ByteArray) : (mget (nb q) k).isSome = (mget (lq q) k).isSome := by
  cases h : mget (lq q) k with
  | none => rw [lq_none h]; rfl
  | some σ =>
    obtain ⟨b, l1, l2, _, h2⟩ := lq_some h
    rw [h2]; rfl
theorem nb_len (q : List Qp) : (nb q).length = q.length := by unfold nb; rw [List.length_map]
theorem lq_len (q : List Qp) : (lq q).length = q.length := by unfold lq; rw [List.length_map]
theorem create_no {S : Sh} {c : Cm} {q : List Qp} (hq : lq q = S.l) {n : Int} (h : crFail (nb q) c = some n) : shCreate S c = (S, .fail n) := by
  unfold crFail at h
  unfold shCreate
  rw [isS_q, nb_len, ← lq_len, hq] at h
  by_cases h1 : shMayCreate c = false
  · rw [if_pos h1] at h; rw [if_pos h1]; injection h with h; rw [h]
  · rw [if_neg h1] at h; rw [if_neg h1]
    by_cases h2 : (mget S.l c.queue).isSome
    · rw [if_pos h2] at h; rw [if_pos h2]; injection h with h; rw [h]
    · rw [if_neg h2] at h; rw [if_neg h2]
      by_cases h3 : 16 ≤ S.l.length
      · rw [if_pos h3] at h; rw [if_pos h3]; injection h with h; rw [h]
      · rw [if_neg h3] at h; cases h
theorem create_yes {S : Sh} {c : Cm} {q : List Qp} (hq : lq q = S.l) (h : crFail (nb q) c = none) : shCreate S c = ({ S with l := sput S.l c.queue (qTck (qNew c.a) S.now).1 }, ⟨0, [], []⟩) ∧ mget S.l c.queue = none ∧ S.l.length < 16 ∧ shMayCreate c = true := by
  unfold crFail at h
  unfold shCreate
  rw [isS_q, nb_len, ← lq_len, hq] at h
  by_cases h1 : shMayCreate c = false
  · rw [if_pos h1] at h; cases h
  · rw [if_neg h1] at h; rw [if_neg h1]
    by_cases h2 : (mget S.l c.queue).isSome
    · rw [if_pos h2] at h; cases h
    · rw [if_neg h2] at h; rw [if_neg h2]
      by_cases h3 : 16 ≤ S.l.length
      · rw [if_pos h3] at h; cases h
      · rw [if_neg h3]
        exact ⟨rfl, by simpa using h2, by omega, by simpa using h1⟩
section
variable {α β γ : Type}
theorem sput_map (f : β → γ) (l : List (ByteArray × β)) (k : ByteArray) (x : β) : (sput l k x).map (fun p => (p.1, f p.2)) = sput (l.map (fun p => (p.1, f p.2))) k (f x) := by
  unfold sput
  rw [List.map_append, List.map_cons, List.filter_map, List.filter_map]
  rfl
end
theorem lq_sput (q : List Qp) (k : ByteArray) (b : Nat) (σ : Qs) : lq (sput q k (b, σ)) = sput (lq q) k σ := sput_map (fun x : Nat × Qs => x.2) q k (b, σ)
theorem nb_sput (q : List Qp) (k : ByteArray) (b : Nat) (σ : Qs) : nb (sput q k (b, σ)) = sput (nb q) k b := sput_map (fun x : Nat × Qs => x.1) q k (b, σ)
theorem lq_mdel (q : List Qp) (k : ByteArray) : lq (mdel q k) = mdel (lq q) k := by unfold lq mdel; rw [List.filter_map]; rfl
theorem nb_mdel (q : List Qp) (k : ByteArray) : nb (mdel q k) = mdel (nb q) k := by unfold nb mdel; rw [List.filter_map]; rfl
theorem q_none {q : List Qp} {k : ByteArray} (h : mget (lq q) k = none) : mget q k = none := by
  unfold lq at h
  rw [mget_map (fun x : Nat × Qs => x.2), Option.map_eq_none_iff] at h
  exact h
section
variable {w0 w : World} {Ps : List Asn} {sb mb lb T : Nat}
theorem Hp.qsPerm {q q' : List Qp} (h : Hp w0 w (AQs q T :: Ps)) (hp : q.Perm q') : Hp w0 w (AQs q' T :: Ps) := (h.unstar.perm (List.Perm.append_right _ (hp.map _))).star
theorem Hp.qsPut {q : List Qp} {k : ByteArray} {b : Nat} {σ : Qs} (h : Hp w0 w (AQu b σ T :: AQs q T :: Ps)) (hg : mget q k = none) : Hp w0 w (AQs (sput q k (b, σ)) T :: Ps) := (Hp.qsBack (l1 := []) (n := k) h).qsPerm (sput_perm (b, σ) hg)
theorem Hp.nbPut {q : List Qp} {k : ByteArray} {b : Nat} {σ : Qs} (h : Hp w0 w (AMg KG encB mb (mput (nb q) k b) :: Ps)) (hg : mget q k = none) : Hp w0 w (AMg KG encB mb (nb (sput q k (b, σ))) :: Ps) := by
  have hg2 : mget (nb q) k = none := by unfold nb; rw [mget_map (fun x : Nat × Qs => x.1), hg]; rfl
  refine h.mgPerm ?_
  unfold mput
  rw [mdel_none hg2, nb_sput]
  exact sput_perm b hg2
theorem Hp.shOfAny {σ : Qs} {qb : Nat} (h : Hp w0 w (AQu qb σ T :: Ps)) (hrec : RecOk w0 (T + 10)) (hE : ErrCell w0) (sv : Value) (c : Cm) (B : Option Addr) (nl db : Nat) (hB : ∀ w1, Hp w0 w1 Ps → Kd.string.C w1 B nl c.bodies) (hok : CmOk c) (hk : 3 ≤ c.kind ∧ c.kind ≤ 9) :
    Calls Tryz.prog 70 #[sv, .pointer (some ⟨qb, 0, none⟩), .agg (c.cells (.slice B nl db))] w fun e w' => AnsE e (shOf σ c).2 w0 w' (AQu qb (shOf σ c).1 (T + 10) :: Ps) := by
  have hc : c.kind = 3 ∨ c.kind = 4 ∨ c.kind = 5 ∨ c.kind = 6 ∨ c.kind = 7 ∨ c.kind = 8 ∨ c.kind = 9 := by omega
  rcases hc with e | e | e | e | e | e | e
  · exact h.shOf3 hrec hE sv c B nl db hB hok e
  · exact h.shOf4 hrec hE sv c B nl db hB hok e
  · exact h.shOf5 hrec hE sv c B nl db hB hok e
  · exact h.shOf6 hrec hE sv c B nl db hB hok e
  · exact h.shOf7 hrec hE sv c B nl db hB hok e
  · exact h.shOf8 hrec hE sv c B nl db hB hok e
  · exact h.shOf9 hrec hE sv c B nl db hB hok e
def HapE (e : Ending) (w0 w' : World) (sb mb lb : Nat) (S : Sh) (c : Cm) (T : Nat) (Ps : List Asn) : Prop :=
  ∃ q', lq q' = (shHappen S c).1.l ∧ AnsE e (shHappen S c).2 w0 w' (ABlk sb (.cells #[.int .i64 (shHappen S c).1.now, .map (some mb), .map (some lb)] 93 (0, 0)) :: AMg KG encB mb (nb q') :: AQs q' (T + shGrow S c) :: Ps)
theorem HapE.of {e : Ending} {w' : World} {S : Sh} {c : Cm} {r : Sh × An} (hr : shHappen S c = r) (q' : List Qp) {T' : Nat} (hq : lq q' = r.1.l) (hT : T' ≤ T + shGrow S c) (A : Option Addr) (n cc : Nat) (B : Option Addr) (m d : Nat) (he : e = .returned (.agg #[.int .i64 r.2.code, .slice A n cc, .slice B m d])) (hn : n = r.2.ids.length) (hm : m = r.2.took.length)
    (h : Hp w0 w' (AInt (.slice A n cc) r.2.ids :: ATk (.slice B m d) r.2.took :: ABlk sb (.cells #[.int .i64 r.1.now, .map (some mb), .map (some lb)] 93 (0, 0)) :: AMg KG encB mb (nb q') :: AQs q' T' :: Ps)) : HapE e w0 w' sb mb lb S c T Ps := by
  subst hr
  exact ⟨q', hq, A, n, cc, B, m, d, he, hn, hm, (h.up4.qsMono hT).down4⟩
set_option maxHeartbeats 16000000 in
set_option maxRecDepth 100000 in
theorem Hp.shHappenC {S : Sh} {q : List Qp} (h : Hp w0 w (ABlk sb (.cells #[.int .i64 S.now, .map (some mb), .map (some lb)] 93 (0, 0)) :: AMg KG encB mb (nb q) :: AQs q T :: Ps)) (hrec : RecOk w0 (T + 16394)) (hE : ErrCell w0) (hq : lq q = S.l) (hI : ShInv S T) (c : Cm) (B : Option Addr) (nl db : Nat) (hB : ∀ w1, Hp w0 w1 Ps → Kd.string.C w1 B nl c.bodies) (hok : CmOk c) :
    Calls Tryz.prog 38 #[.pointer (some ⟨sb, 0, none⟩), .agg (c.cells (.slice B nl db))] w fun e w' => HapE e w0 w' sb mb lb S c T Ps := by
  have HREC := Lib.hid hrec
  have HT9 := Lib.hid hrec.2
  have HE := Lib.hid hE
  have HOK := Lib.hid hok
  have HI := Lib.hid hI
  have HQ := Lib.hid hq
  have HPB := Lib.hid hB
  have HNQ := Lib.hid (show (q.map (·.1)).Nodup by rw [← lq_keys, hq]; exact hI.ris.keys)
  have hz : (w.alloc (.cells (c.cells (.slice B nl db)) 32)).heap.size = w.heap.size + 1 := by simp
  have hp := (h.alloc (.cells (c.cells (.slice B nl db)) 32)).alloc (.cells #[.int .i64 0, .slice none 0 0, .slice none 0 0] 36)
  rw [hz] at hp
  obtain ⟨cb, hcb⟩ : ∃ k, k = w.heap.size := ⟨_, rfl⟩
  obtain ⟨rb, hrb⟩ : ∃ k, k = w.heap.size + 1 := ⟨_, rfl⟩
  rw [← hrb, ← hcb] at hp
  have HP0 := Lib.hid hp
  clear hE hz h hrec hq hI hB hok
  go_enter Tryz.func38, Tryz.ntmps38
  go_upto_region 1 with (fail)
  change Code.wp _ _ _ _ ((w.alloc (.cells (c.cells (.slice B nl db)) 32)).alloc (.cells #[.int .i64 0, .slice none 0 0, .slice none 0 0] 36))
  generalize (w.alloc (.cells (c.cells (.slice B nl db)) 32)).alloc (.cells #[.int .i64 0, .slice none 0 0, .slice none 0 0] 36) = W0 at *
  rw [← hrb, ← hcb]
  clear hrb hcb
  have lk := fun n : Nat => lookQ (w := W0.drewN n) (HP0.out.below (pw_below_drewN (Below.refl _ _) n)).up3.mgUse.1 HOK.out.queue
  obtain ⟨qv, hqv⟩ : ∃ v, v = ((mget (nb q) c.queue).map encB).getD (.pointer none) := ⟨_, rfl⟩
  obtain ⟨isb, hisb⟩ : ∃ b, b = (mget (nb q) c.queue).isSome := ⟨_, rfl⟩
  rw [← hqv, ← hisb] at lk
  have HIS := Lib.hid hisb
  have HQV := Lib.hid hqv
  clear hqv hisb
  have p1 : W0.cell? ⟨sb, 1, none⟩ = some (.map (some mb)) := blk_cell hp.blk2 1
  have g3 : W0.cell? ⟨cb, 3, none⟩ = some (.string c.queue) := blk_cell hp.blk1 3
  clear hp
  go_quiet (fail)
  have HP1 := Lib.hid (HP0.out.below (pw_below_drewN (Below.refl _ _) nq))
  clear lk p1 g3
  generalize W0.drewN nq = W1 at *
  by_cases hbad : c.kind < 0 ∨ 9 < c.kind
  case pos =>
    have HBAD := Lib.hid hbad
    have hcase : c.kind < 0 ∨ (¬ c.kind < 0 ∧ 9 < c.kind) := by omega
    clear hbad
    have g2 : W1.cell? ⟨cb, 2, none⟩ = some (.int .i64 c.kind) := blk_cell HP1.out.blk1 2
    rcases hcase with i1 | ⟨i1, i2⟩
    all_goals
      have HF := Lib.hid (failed_any 1 _ (HE.out.below HP1.out.belowW))
      go_wp2_with fail
      refine Calls.mono HF.out ?_
      rintro e w8 ⟨rfl, hB⟩
      have HP8 := Lib.hid (HP1.out.below hB)
      clear hB
      go_wp2_with ((with_reducible refine gate_store (t := 36) (p := 4) (v := .tmp 27) rfl ?_); refine wpList_store_row rfl 36 (.tmp 4) (.tmp 27) rfl rb #[.int .i64 1, .slice none 0 0, .slice none 0 0] rfl rfl 36 #[.int .i64 0, .slice none 0 0, .slice none 0 0] HP8.out.blk0 info_ansS rfl (by simp [Value.oneCell']) ?_)
      have HPZ := Lib.hid (HP8.out.setRowBlkS #[.int .i64 1, .slice none 0 0, .slice none 0 0])
      refine bodyPost_ret (results_cell_row rfl _ _ rb 36 #[.int .i64 1, .slice none 0 0, .slice none 0 0] (0, 0) _ rfl HPZ.out.blk0 Tryz.underlying36 rfl info_ansS) rfl ?_
      exact HapE.of (hap_bad HBAD.out) q HQ.out (Nat.le_add_right _ _) none 0 0 none 0 0 rfl rfl rfl ((HPZ.out.tail.tail.nilRowS KTk 45).nilRowS (Kd.int .i64) 3)
  case neg =>
  have i1 : ¬ c.kind < 0 := by omega
  have i2 : ¬ 9 < c.kind := by omega
  clear hbad
  by_cases hk0 : c.kind = 0
  case pos =>
    have g2 : W1.cell? ⟨cb, 2, none⟩ = some (.int .i64 0) := by rw [← hk0]; exact blk_cell HP1.out.blk1 2
    have HK0 := Lib.hid hk0
    clear hk0 i1 i2
    have HTICK := Lib.hid ((show Hp w0 W1 (ABlk sb (.cells #[.int .i64 S.now, .map (some mb), .map (some lb)] 93 (0, 0)) :: AMg KG encB mb (nb q) :: AQs q T :: ABlk rb (.cells #[.int .i64 0, .slice none 0 0, .slice none 0 0] 36 (0, 0)) :: ABlk cb (.cells (c.cells (.slice B nl db)) 32 (0, 0)) :: Ps) from HP1.out.up4.up4.up4).shTick (show T + 16384 < 999999 by have := HT9.out; omega) HE.out (HI.out.ris.of_keys (by rw [nb_keys, ← lq_keys, HQ.out])) (by rw [← lq_len, HQ.out]; exact HI.out.len) (fun p hp => (HI.out.names (p.1, p.2.2) (by rw [← HQ.out]; exact List.mem_map.2 ⟨p, hp, rfl⟩)).2) (fun p hp => HI.out.inv p (by rw [← HQ.out]; exact hp)) c (.slice B nl db))
    go_wp2_with ((with_reducible refine gate_dst (N := 33) rfl ?_); refine wpList_load_row rfl 32 (.tmp 3) rfl cb rfl 32 (c.cells (.slice B nl db)) (0, 0) _ (HP1.out.blk1) Tryz.underlying32 rfl info_cmdS ?_)
    refine Calls.mono HTICK.out ?_
    rintro e w5 (⟨hb, A1, n1, c1, B1, m1, d1, rfl, hn, hm, hP⟩ | ⟨hg, q', hq1, hq2, hA⟩)
    · have HB2 := Lib.hid hb
      clear hb
      obtain ⟨an, han⟩ : ∃ a, a = An.fail 1 := ⟨_, rfl⟩
      rw [← han] at hP hn hm ⊢
      have HAN := Lib.hid han
      clear han
      have HN := Lib.hid hn
      have HM := Lib.hid hm
      have HP8 := Lib.hid (hP.up5)
      clear hn hm hP
      go_wp2_with ((with_reducible refine gate_store (t := 36) (p := 4) (v := .tmp 34) rfl ?_); refine wpList_store_row rfl 36 (.tmp 4) (.tmp 34) rfl rb #[.int .i64 an.code, .slice A1 n1 c1, .slice B1 m1 d1] rfl rfl 36 #[.int .i64 0, .slice none 0 0, .slice none 0 0] HP8.out.blk0 info_ansS rfl (by simp [Value.oneCell']) ?_)
      have HPZ := Lib.hid (HP8.out.setRowBlkS #[.int .i64 an.code, .slice A1 n1 c1, .slice B1 m1 d1])
      refine bodyPost_ret (results_cell_row rfl _ _ rb 36 #[.int .i64 an.code, .slice A1 n1 c1, .slice B1 m1 d1] (0, 0) _ rfl HPZ.out.blk0 Tryz.underlying36 rfl info_ansS) rfl ?_
      refine HapE.of (r := (S, an)) ((hap_0 HK0.out).trans ((tick_no HB2.out).trans (by rw [HAN.out]))) q HQ.out (Nat.le_add_right _ _) A1 n1 c1 B1 m1 d1 rfl HN.out HM.out ?_
      exact HPZ.out.tail.up5.tail
    · obtain ⟨an, han⟩ : ∃ a, a = An.nums [(shMoves (tkAll (lq q) c.n) (tkMoves (lq q) c.n)).2, ((tkMoves (lq q) c.n).length : Int) - (shMoves (tkAll (lq q) c.n) (tkMoves (lq q) c.n)).2, tkPast (lq q) c.n] := ⟨_, rfl⟩
      rw [← han] at hA
      have HAN := Lib.hid han
      have HQ1 := Lib.hid hq1
      have HG := Lib.hid hg
      obtain ⟨A1, n1, c1, B1, m1, d1, rfl, hn, hm, hP⟩ := hA
      rw [← hq2] at hP
      clear han hq1 hg hq2
      have HN := Lib.hid hn
      have HM := Lib.hid hm
      have HP8 := Lib.hid (hP.up5)
      clear hn hm hP
      go_wp2_with ((with_reducible refine gate_store (t := 36) (p := 4) (v := .tmp 34) rfl ?_); refine wpList_store_row rfl 36 (.tmp 4) (.tmp 34) rfl rb #[.int .i64 an.code, .slice A1 n1 c1, .slice B1 m1 d1] rfl rfl 36 #[.int .i64 0, .slice none 0 0, .slice none 0 0] HP8.out.blk0 info_ansS rfl (by simp [Value.oneCell']) ?_)
      have HPZ := Lib.hid (HP8.out.setRowBlkS #[.int .i64 an.code, .slice A1 n1 c1, .slice B1 m1 d1])
      refine bodyPost_ret (results_cell_row rfl _ _ rb 36 #[.int .i64 an.code, .slice A1 n1 c1, .slice B1 m1 d1] (0, 0) _ rfl HPZ.out.blk0 Tryz.underlying36 rfl info_ansS) rfl ?_
      refine HapE.of (r := ({ S with now := c.n, l := (shMoves (tkAll S.l c.n) (tkMoves S.l c.n)).1 }, an)) ((hap_0 HK0.out).trans ((tick_yes HG.out).trans (by rw [HAN.out, HQ.out]))) q' (by rw [HQ1.out, HQ.out]) (show T + (tkMoves (lq q) c.n).length ≤ T + shGrow S c by unfold shGrow; rw [if_pos HK0.out, HQ.out]; exact Nat.le_refl _) A1 n1 c1 B1 m1 d1 rfl HN.out HM.out ?_
      exact HPZ.out.tail.up5.tail
  case neg =>
  by_cases hk1 : c.kind = 1
  case pos =>
    have g2 : W1.cell? ⟨cb, 2, none⟩ = some (.int .i64 1) := by rw [← hk1]; exact blk_cell HP1.out.blk1 2
    have HK1 := Lib.hid hk1
    clear hk1 i1 i2 hk0
    have HCR := Lib.hid ((show Hp w0 W1 (ABlk sb (.cells #[.int .i64 S.now, .map (some mb), .map (some lb)] 93 (0, 0)) :: AMg KG encB mb (nb q) :: AQs q T :: ABlk rb (.cells #[.int .i64 0, .slice none 0 0, .slice none 0 0] 36 (0, 0)) :: ABlk cb (.cells (c.cells (.slice B nl db)) 32 (0, 0)) :: Ps) from HP1.out.up4.up4.up4).shCreateC HE.out c (.slice B nl db) HOK.out (by rw [nb_len, ← lq_len, HQ.out]; exact HI.out.len))
    go_wp2_with ((with_reducible refine gate_dst (N := 40) rfl ?_); refine wpList_load_row rfl 32 (.tmp 3) rfl cb rfl 32 (c.cells (.slice B nl db)) (0, 0) _ (HP1.out.blk1) Tryz.underlying32 rfl info_cmdS ?_)
    refine Calls.mono HCR.out ?_
    rintro e w5 (⟨n, hc, A1, n1, c1, B1, m1, d1, rfl, hn, hm, hP⟩ | ⟨hc, qb, A1, n1, c1, B1, m1, d1, rfl, hn, hm, hP⟩)
    · obtain ⟨an, han⟩ : ∃ a, a = An.fail n := ⟨_, rfl⟩
      rw [← han] at hP hn hm ⊢
      have HAN := Lib.hid han
      have HC := Lib.hid hc
      clear han hc
      have HN := Lib.hid hn
      have HM := Lib.hid hm
      have HP8 := Lib.hid (hP.up5)
      clear hn hm hP
      go_wp2_with ((with_reducible refine gate_store (t := 36) (p := 4) (v := .tmp 41) rfl ?_); refine wpList_store_row rfl 36 (.tmp 4) (.tmp 41) rfl rb #[.int .i64 an.code, .slice A1 n1 c1, .slice B1 m1 d1] rfl rfl 36 #[.int .i64 0, .slice none 0 0, .slice none 0 0] HP8.out.blk0 info_ansS rfl (by simp [Value.oneCell']) ?_)
      have HPZ := Lib.hid (HP8.out.setRowBlkS #[.int .i64 an.code, .slice A1 n1 c1, .slice B1 m1 d1])
      refine bodyPost_ret (results_cell_row rfl _ _ rb 36 #[.int .i64 an.code, .slice A1 n1 c1, .slice B1 m1 d1] (0, 0) _ rfl HPZ.out.blk0 Tryz.underlying36 rfl info_ansS) rfl ?_
      refine HapE.of (r := (S, an)) ((hap_1 HK1.out).trans ((create_no HQ.out HC.out).trans (by rw [HAN.out]))) q HQ.out (Nat.le_add_right _ _) A1 n1 c1 B1 m1 d1 rfl HN.out HM.out ?_
      exact (HPZ.out.tail.up5.tail)
    · obtain ⟨an, han⟩ : ∃ a : An, a = ⟨0, [], []⟩ := ⟨_, rfl⟩
      rw [← han] at hP hn hm
      rw [show (0 : Int) = an.code by rw [han]]
      have HAN := Lib.hid han
      have HC := Lib.hid hc
      clear han hc
      have HN := Lib.hid hn
      have HM := Lib.hid hm
      have HP8 := Lib.hid (hP.up6)
      clear hn hm hP
      go_wp2_with ((with_reducible refine gate_store (t := 36) (p := 4) (v := .tmp 41) rfl ?_); refine wpList_store_row rfl 36 (.tmp 4) (.tmp 41) rfl rb #[.int .i64 an.code, .slice A1 n1 c1, .slice B1 m1 d1] rfl rfl 36 #[.int .i64 0, .slice none 0 0, .slice none 0 0] HP8.out.blk0 info_ansS rfl (by simp [Value.oneCell']) ?_)
      have HPZ := Lib.hid (HP8.out.setRowBlkS #[.int .i64 an.code, .slice A1 n1 c1, .slice B1 m1 d1])
      refine bodyPost_ret (results_cell_row rfl _ _ rb 36 #[.int .i64 an.code, .slice A1 n1 c1, .slice B1 m1 d1] (0, 0) _ rfl HPZ.out.blk0 Tryz.underlying36 rfl info_ansS) rfl ?_
      have HY := create_yes HQ.out HC.out
      have HGN := q_none (show mget (lq q) c.queue = none by rw [HQ.out]; exact HY.2.1)
      refine HapE.of (r := ({ S with l := sput S.l c.queue (qTck (qNew c.a) S.now).1 }, an)) ((hap_1 HK1.out).trans (HY.1.trans (by rw [HAN.out]))) (sput q c.queue (qb, (qTck (qNew c.a) S.now).1)) (by rw [lq_sput, HQ.out]) (Nat.le_add_right T _) A1 n1 c1 B1 m1 d1 rfl HN.out HM.out ?_
      dsimp only
      have h1 : Hp w0 _ (AQu qb (qTck (qNew c.a) S.now).1 T :: AQs q T :: AMg KG encB mb (mput (nb q) c.queue qb) :: ABlk sb (.cells #[.int .i64 S.now, .map (some mb), .map (some lb)] 93 (0, 0)) :: AInt (.slice A1 n1 c1) an.ids :: ATk (.slice B1 m1 d1) an.took :: Ps) := ((HPZ.out.tail.up6.tail.up2.quMono (Nat.zero_le T)).perm (by (repeat (first | (with_reducible exact List.Perm.refl _) | (with_reducible refine pb0 ?_) | (with_reducible refine pb1 ?_) | (with_reducible refine pb2 ?_) | (with_reducible refine pb3 ?_) | (with_reducible refine pb4 ?_) | (with_reducible refine pb5 ?_) | (with_reducible refine pb6 ?_) | (with_reducible refine pb7 ?_) | (with_reducible refine pb8 ?_) | (with_reducible refine pb9 ?_) | (with_reducible refine pb10 ?_) | (with_reducible refine pb11 ?_) | (with_reducible refine pb12 ?_) | (with_reducible refine pb13 ?_) | (with_reducible refine pb14 ?_) | (with_reducible refine pb15 ?_)))))
      have h2 := ((h1.qsPut HGN).swap.nbPut (σ := (qTck (qNew c.a) S.now).1) HGN)
      exact h2.perm (by (repeat (first | (with_reducible exact List.Perm.refl _) | (with_reducible refine pb0 ?_) | (with_reducible refine pb1 ?_) | (with_reducible refine pb2 ?_) | (with_reducible refine pb3 ?_) | (with_reducible refine pb4 ?_) | (with_reducible refine pb5 ?_) | (with_reducible refine pb6 ?_) | (with_reducible refine pb7 ?_) | (with_reducible refine pb8 ?_) | (with_reducible refine pb9 ?_) | (with_reducible refine pb10 ?_) | (with_reducible refine pb11 ?_) | (with_reducible refine pb12 ?_) | (with_reducible refine pb13 ?_) | (with_reducible refine pb14 ?_) | (with_reducible refine pb15 ?_))))
  case neg =>
  have hk2 : 2 ≤ c.kind ∧ c.kind ≤ 9 := by omega
  have g2 : W1.cell? ⟨cb, 2, none⟩ = some (.int .i64 c.kind) := blk_cell HP1.out.blk1 2
  cases hg : mget (lq q) c.queue with
  | none =>
    have HIF := Lib.hid (show isb = false by rw [HIS.out, lq_none hg]; rfl)
    have HG := Lib.hid (show mget S.l c.queue = none by rw [← HQ.out]; exact hg)
    have e := HIF.out
    subst e
    clear hg
    have HF := Lib.hid (failed_any 6 _ (HE.out.below HP1.out.belowW))
    go_wp2_with fail
    refine Calls.mono HF.out ?_
    rintro e w8 ⟨rfl, hB⟩
    have HP8 := Lib.hid (HP1.out.below hB)
    clear hB
    go_wp2_with ((with_reducible refine gate_store (t := 36) (p := 4) (v := .tmp 46) rfl ?_); refine wpList_store_row rfl 36 (.tmp 4) (.tmp 46) rfl rb #[.int .i64 6, .slice none 0 0, .slice none 0 0] rfl rfl 36 #[.int .i64 0, .slice none 0 0, .slice none 0 0] HP8.out.blk0 info_ansS rfl (by simp [Value.oneCell']) ?_)
    have HPZ := Lib.hid (HP8.out.setRowBlkS #[.int .i64 6, .slice none 0 0, .slice none 0 0])
    refine bodyPost_ret (results_cell_row rfl _ _ rb 36 #[.int .i64 6, .slice none 0 0, .slice none 0 0] (0, 0) _ rfl HPZ.out.blk0 Tryz.underlying36 rfl info_ansS) rfl ?_
    exact HapE.of (hap_no hk2 HG.out) q HQ.out (Nat.le_add_right _ _) none 0 0 none 0 0 rfl rfl rfl ((HPZ.out.tail.tail.nilRowS KTk 45).nilRowS (Kd.int .i64) 3)
  | some σ =>
  obtain ⟨b, l1, l2, hqe, hnb⟩ := lq_some hg
  have HG := Lib.hid (show mget S.l c.queue = some σ by rw [← HQ.out]; exact hg)
  have e1 : isb = true := by rw [HIS.out, hnb]; rfl
  have e2 : qv = .pointer (some ⟨b, 0, none⟩) := by rw [HQV.out, hnb]; rfl
  subst e1 e2
  have HQE := Lib.hid hqe
  clear hg hnb
  have HP2 := Lib.hid (show Hp w0 W1 (AQu b σ T :: ABlk sb (.cells #[.int .i64 S.now, .map (some mb), .map (some lb)] 93 (0, 0)) :: AMg KG encB mb (nb q) :: AQs (l1 ++ l2) T :: ABlk rb (.cells #[.int .i64 0, .slice none 0 0, .slice none 0 0] 36 (0, 0)) :: ABlk cb (.cells (c.cells (.slice B nl db)) 32 (0, 0)) :: Ps) from by
    have h1 := HP1.out.up4
    have e : AQs q T = AQs (l1 ++ (c.queue, (b, σ)) :: l2) T := by rw [HQE.out]
    rw [e] at h1
    exact h1.qsPick.perm (by (repeat (first | (with_reducible exact List.Perm.refl _) | (with_reducible refine pb0 ?_) | (with_reducible refine pb1 ?_) | (with_reducible refine pb2 ?_) | (with_reducible refine pb3 ?_) | (with_reducible refine pb4 ?_) | (with_reducible refine pb5 ?_) | (with_reducible refine pb6 ?_) | (with_reducible refine pb7 ?_) | (with_reducible refine pb8 ?_) | (with_reducible refine pb9 ?_) | (with_reducible refine pb10 ?_) | (with_reducible refine pb11 ?_) | (with_reducible refine pb12 ?_) | (with_reducible refine pb13 ?_) | (with_reducible refine pb14 ?_) | (with_reducible refine pb15 ?_)))))
  clear hqe
  by_cases hk3 : c.kind = 2
  case pos =>
    have HK3 := Lib.hid hk3
    have HOF := Lib.hid (HP2.out.shOf2 (HREC.out.le (Nat.le_add_right _ _)) HE.out c B nl db HOK.out hk3)
    clear hk3
    go_wp2_with ((with_reducible refine gate_dst (N := 49) rfl ?_); refine wpList_load_row rfl 32 (.tmp 3) rfl cb rfl 32 (c.cells (.slice B nl db)) (0, 0) _ (HP1.out.blk1) Tryz.underlying32 rfl info_cmdS ?_)
    refine Calls.mono HOF.out ?_
    rintro e w5 ⟨A1, n1, c1, B1, m1, d1, rfl, hn, hm, hP⟩
    obtain ⟨an, han⟩ : ∃ a, a = An.nums [(σ.l.length : Int)] := ⟨_, rfl⟩
    rw [← han] at hP hn hm ⊢
    have HAN := Lib.hid han
    clear han
    have HN := Lib.hid hn
    have HM := Lib.hid hm
    have HP8 := Lib.hid (hP.up6)
    clear hn hm hP
    go_wp2_with ((with_reducible refine gate_store (t := 36) (p := 4) (v := .tmp 50) rfl ?_); refine wpList_store_row rfl 36 (.tmp 4) (.tmp 50) rfl rb #[.int .i64 an.code, .slice A1 n1 c1, .slice B1 m1 d1] rfl rfl 36 #[.int .i64 0, .slice none 0 0, .slice none 0 0] HP8.out.blk0 info_ansS rfl (by simp [Value.oneCell']) ?_)
    have HPZ := Lib.hid (HP8.out.setRowBlkS #[.int .i64 an.code, .slice A1 n1 c1, .slice B1 m1 d1])
    refine bodyPost_ret (results_cell_row rfl _ _ rb 36 #[.int .i64 an.code, .slice A1 n1 c1, .slice B1 m1 d1] (0, 0) _ rfl HPZ.out.blk0 Tryz.underlying36 rfl info_ansS) rfl ?_
    refine HapE.of (r := ({ S with l := mdel S.l c.queue }, an)) ((hap_2 HK3.out HG.out).trans (by rw [HAN.out])) (mdel q c.queue) (by rw [lq_mdel, HQ.out]) (Nat.le_add_right T _) A1 n1 c1 B1 m1 d1 rfl HN.out HM.out ?_
    dsimp only
    have h1 : Hp w0 _ (AMg KG encB mb (mdel (nb q) c.queue) :: AQs (l1 ++ l2) T :: ABlk sb (.cells #[.int .i64 S.now, .map (some mb), .map (some lb)] 93 (0, 0)) :: AInt (.slice A1 n1 c1) an.ids :: ATk (.slice B1 m1 d1) an.took :: Ps) := ((HPZ.out.tail.up6.tail.up2.tail).perm (by (repeat (first | (with_reducible exact List.Perm.refl _) | (with_reducible refine pb0 ?_) | (with_reducible refine pb1 ?_) | (with_reducible refine pb2 ?_) | (with_reducible refine pb3 ?_) | (with_reducible refine pb4 ?_) | (with_reducible refine pb5 ?_) | (with_reducible refine pb6 ?_) | (with_reducible refine pb7 ?_) | (with_reducible refine pb8 ?_) | (with_reducible refine pb9 ?_) | (with_reducible refine pb10 ?_) | (with_reducible refine pb11 ?_) | (with_reducible refine pb12 ?_) | (with_reducible refine pb13 ?_) | (with_reducible refine pb14 ?_) | (with_reducible refine pb15 ?_)))))
    rw [← nb_mdel, show l1 ++ l2 = mdel q c.queue by rw [HQE.out, mdel_split (by rw [← HQE.out]; exact HNQ.out)]] at h1
    exact h1.perm (by (repeat (first | (with_reducible exact List.Perm.refl _) | (with_reducible refine pb0 ?_) | (with_reducible refine pb1 ?_) | (with_reducible refine pb2 ?_) | (with_reducible refine pb3 ?_) | (with_reducible refine pb4 ?_) | (with_reducible refine pb5 ?_) | (with_reducible refine pb6 ?_) | (with_reducible refine pb7 ?_) | (with_reducible refine pb8 ?_) | (with_reducible refine pb9 ?_) | (with_reducible refine pb10 ?_) | (with_reducible refine pb11 ?_) | (with_reducible refine pb12 ?_) | (with_reducible refine pb13 ?_) | (with_reducible refine pb14 ?_) | (with_reducible refine pb15 ?_))))
  case neg =>
  have HK3 := Lib.hid (show 3 ≤ c.kind ∧ c.kind ≤ 9 by omega)
  have HOF := Lib.hid (HP2.out.shOfAny (HREC.out.le (show T + 10 ≤ T + 16394 by omega)) HE.out (.pointer (some ⟨sb, 0, none⟩)) c B nl db (fun w1 h1 => HPB.out w1 h1.tail.tail.tail.tail.tail) HOK.out HK3.out)
  clear hk3
  obtain ⟨⟨σ', an⟩, hr⟩ : ∃ r, r = shOf σ c := ⟨_, rfl⟩
  rw [← hr] at HOF
  dsimp only at HOF
  have HR := Lib.hid hr
  clear hr
  go_wp2_with ((with_reducible refine gate_dst (N := 49) rfl ?_); refine wpList_load_row rfl 32 (.tmp 3) rfl cb rfl 32 (c.cells (.slice B nl db)) (0, 0) _ (HP1.out.blk1) Tryz.underlying32 rfl info_cmdS ?_)
  refine Calls.mono HOF.out ?_
  rintro e w5 ⟨A1, n1, c1, B1, m1, d1, rfl, hn, hm, hP⟩
  have HN := Lib.hid hn
  have HM := Lib.hid hm
  have HP8 := Lib.hid (hP.up6)
  clear hn hm hP
  go_wp2_with ((with_reducible refine gate_store (t := 36) (p := 4) (v := .tmp 50) rfl ?_); refine wpList_store_row rfl 36 (.tmp 4) (.tmp 50) rfl rb #[.int .i64 an.code, .slice A1 n1 c1, .slice B1 m1 d1] rfl rfl 36 #[.int .i64 0, .slice none 0 0, .slice none 0 0] HP8.out.blk0 info_ansS rfl (by simp [Value.oneCell']) ?_)
  have HPZ := Lib.hid (HP8.out.setRowBlkS #[.int .i64 an.code, .slice A1 n1 c1, .slice B1 m1 d1])
  refine bodyPost_ret (results_cell_row rfl _ _ rb 36 #[.int .i64 an.code, .slice A1 n1 c1, .slice B1 m1 d1] (0, 0) _ rfl HPZ.out.blk0 Tryz.underlying36 rfl info_ansS) rfl ?_
  refine HapE.of (r := ({ S with l := mupd S.l c.queue σ' }, an)) ((hap_of HK3.out HG.out).trans (by rw [← HR.out])) (l1 ++ (c.queue, (b, σ')) :: l2) (by rw [lq_upd (σ := σ) σ' (by rw [← HQE.out]; exact HNQ.out), ← HQE.out, HQ.out]) (show T + 10 ≤ T + shGrow S c by unfold shGrow; rw [if_neg (by have := HK3.out; omega)]; exact Nat.le_refl _) A1 n1 c1 B1 m1 d1 rfl HN.out HM.out ?_
  dsimp only
  have h1 : Hp w0 _ (AQu b σ' (T + 10) :: AQs (l1 ++ l2) (T + 10) :: AMg KG encB mb (nb q) :: ABlk sb (.cells #[.int .i64 S.now, .map (some mb), .map (some lb)] 93 (0, 0)) :: AInt (.slice A1 n1 c1) an.ids :: ATk (.slice B1 m1 d1) an.took :: Ps) := (((HPZ.out.tail.up6.tail.perm (show List.Perm _ (AQs (l1 ++ l2) T :: AQu b σ' (T + 10) :: AMg KG encB mb (nb q) :: ABlk sb (.cells #[.int .i64 S.now, .map (some mb), .map (some lb)] 93 (0, 0)) :: AInt (.slice A1 n1 c1) an.ids :: ATk (.slice B1 m1 d1) an.took :: Ps) by (repeat (first | (with_reducible exact List.Perm.refl _) | (with_reducible refine pb0 ?_) | (with_reducible refine pb1 ?_) | (with_reducible refine pb2 ?_) | (with_reducible refine pb3 ?_) | (with_reducible refine pb4 ?_) | (with_reducible refine pb5 ?_) | (with_reducible refine pb6 ?_) | (with_reducible refine pb7 ?_) | (with_reducible refine pb8 ?_) | (with_reducible refine pb9 ?_) | (with_reducible refine pb10 ?_) | (with_reducible refine pb11 ?_) | (with_reducible refine pb12 ?_) | (with_reducible refine pb13 ?_) | (with_reducible refine pb14 ?_) | (with_reducible refine pb15 ?_))))).qsMono (Nat.le_add_right _ _)).swap)
  rw [nb_upd σ σ', ← HQE.out]
  exact (h1.qsBack (n := c.queue)).perm (by (repeat (first | (with_reducible exact List.Perm.refl _) | (with_reducible refine pb0 ?_) | (with_reducible refine pb1 ?_) | (with_reducible refine pb2 ?_) | (with_reducible refine pb3 ?_) | (with_reducible refine pb4 ?_) | (with_reducible refine pb5 ?_) | (with_reducible refine pb6 ?_) | (with_reducible refine pb7 ?_) | (with_reducible refine pb8 ?_) | (with_reducible refine pb9 ?_) | (with_reducible refine pb10 ?_) | (with_reducible refine pb11 ?_) | (with_reducible refine pb12 ?_) | (with_reducible refine pb13 ?_) | (with_reducible refine pb14 ?_) | (with_reducible refine pb15 ?_))))
end
end Go.Proofs.YtipdleiginnjmaaGreatDoor
set_option linter.unusedVariables false
namespace Go.Proofs.YtipdleiginnjmaaGreatDoor
theorem now_send (σ : Qs) (b g k : ByteArray) (d : Int) : (qSend σ b g k d).1.now = σ.now := by
  unfold qSend
  split
  · rfl
  · split
    · rfl
    · split <;> rfl
theorem now_ack (σ : Qs) (s : ByteArray) : (qAck σ s).1.now = σ.now := by unfold qAck; cases qBy σ s <;> rfl
theorem now_ext (σ : Qs) (s : ByteArray) (v : Int) : (qExt σ s v).1.now = σ.now := by
  unfold qExt
  split
  · cases qBy σ s with
    | none => rfl
    | some m => dsimp only; split <;> rfl
  · rfl
theorem now_rcv (σ : Qs) (n v : Int) : (qRcv σ n v).1.now = σ.now := by unfold qRcv; split <;> rfl
theorem now_set (σ : Qs) (a : QA) : (qSet σ a).now = σ.now := by unfold qSet; split <;> rfl
theorem now_tck {σ : Qs} {n : Int} (h : qMay σ n = true) : (qTck σ n).1.now = n := by unfold qTck; rw [if_pos h]; rfl
theorem rcv_len (σ : Qs) (n v : Int) : (qRcv σ n v).2.1.length ≤ 10 := by
  unfold qRcv
  split
  · rename_i h
    unfold qMayRecv at h
    have h := of_decide_eq_true h
    show ((qTook σ n.toNat).map Msg.tk).length ≤ 10
    unfold qTook
    rw [List.length_map, List.length_take]
    omega
  · exact Nat.zero_le _
theorem An.told_len (e : Int) (l : List Int) : (An.told e l).ids.length ≤ l.length ∧ (An.told e l).took.length = 0 := by
  unfold An.told
  split
  · exact ⟨Nat.le_refl _, rfl⟩
  · exact ⟨Nat.zero_le _, rfl⟩
section
variable {σ : Qs} {T : Nat}
theorem qBatch_ok (g : ByteArray) (n : Int) : ∀ (bs : List ByteArray) (σ : Qs) (T : Nat) (acc : List Int), QInv σ T →
    QInv (qBatch σ g n bs acc).1 (T + bs.length) ∧ (qBatch σ g n bs acc).1.now = σ.now ∧ (qBatch σ g n bs acc).2.ids.length ≤ acc.length + bs.length ∧ (qBatch σ g n bs acc).2.took.length = 0
  | [], σ, T, acc, h => ⟨h, rfl, Nat.le_refl _, rfl⟩
  | b :: bs, σ, T, acc, h => by
    rw [qBatch_step]
    have h1 := h.send b g ⟨#[]⟩ n
    split
    · obtain ⟨a1, a2, a3, a4⟩ := qBatch_ok g n bs _ (T + 1) (acc ++ [(qSend σ b g ⟨#[]⟩ n).2.1]) h1
      refine ⟨?_, a2.trans (now_send _ _ _ _ _), ?_, a4⟩
      · rw [List.length_cons, show T + (bs.length + 1) = T + 1 + bs.length by omega]; exact a1
      · rw [List.length_append] at a3
        rw [List.length_cons]
        simp at a3
        omega
    · exact ⟨h1.mono (by rw [List.length_cons]; omega), now_send _ _ _ _ _, Nat.le_add_right _ _, rfl⟩
theorem shOf_ok (h : QInv σ T) (c : Cm) : QInv (shOf σ c).1 (T + 10) ∧ (shOf σ c).1.now = σ.now ∧ (shOf σ c).2.ids.length ≤ 10 ∧ (shOf σ c).2.took.length ≤ 10 := by
  have hm := h.mono (Nat.le_add_right T 10)
  have told : ∀ (e : Int) (l : List Int), l.length ≤ 1 → (An.told e l).ids.length ≤ 10 ∧ (An.told e l).took.length ≤ 10 := fun e l hl => by
    have := An.told_len e l
    omega
  unfold shOf
  split
  · exact ⟨hm.purge, rfl, by simp [An.nums], by simp [An.nums]⟩
  split
  · exact ⟨hm.set c.a, now_set _ _, told _ _ (by simp)⟩
  split
  · exact ⟨(h.send _ _ _ _).mono (by omega), now_send _ _ _ _ _, told _ _ (by simp)⟩
  split
  · unfold shBatch
    split
    · exact ⟨hm, rfl, by simp [An.fail], by simp [An.fail]⟩
    · obtain ⟨a1, a2, a3, a4⟩ := qBatch_ok c.group c.n c.bodies σ T [] h
      exact ⟨a1.mono (by omega), a2, by simp at a3; omega, by omega⟩
  split
  · unfold shRecv
    refine ⟨(h.rcv _ _).mono (by omega), now_rcv _ _ _, ?_, ?_⟩
    · dsimp only
      split
      · exact Nat.zero_le _
      · exact Nat.zero_le _
    · dsimp only
      split
      · exact rcv_len _ _ _
      · exact Nat.zero_le _
  split
  · exact ⟨hm.ack _, now_ack _ _, told _ _ (by simp)⟩
  · exact ⟨hm.ext _ _, now_ext _ _ _, told _ _ (by simp)⟩
end
section
variable {l : List Nq} {T : Nat}
/-- What holds of all queues. -/
structure LInv (l : List Nq) (T : Nat) (t : Int) (ks : List ByteArray) : Prop where
  keys : l.map (·.1) = ks
  inv : ∀ p ∈ l, QInv p.2 T
  time : ∀ p ∈ l, p.2.now = t
theorem LInv.mono {T T' : Nat} {t : Int} {ks : List ByteArray} (h : LInv l T t ks) (hT : T ≤ T') : LInv l T' t ks := ⟨h.keys, fun p hp => (h.inv p hp).mono hT, h.time⟩
theorem LInv.upd {T T' : Nat} {t : Int} {ks : List ByteArray} (h : LInv l T t ks) (hT : T ≤ T') {k : ByteArray} {σ' : Qs} (h1 : QInv σ' T') (h2 : σ'.now = t) : LInv (mupd l k σ') T' t ks :=
  ⟨(mupd_keys _ _ _).trans h.keys, fun p hp => (mupd_mem hp).elim (fun e => e ▸ h1) (fun hp => (h.inv p hp).mono hT), fun p hp => (mupd_mem hp).elim (fun e => e ▸ h2) (fun hp => h.time p hp)⟩
theorem LInv.move {T : Nat} {t : Int} {ks : List ByteArray} (h : LInv l T t ks) (v : Mv) : LInv (shMove l v) (T + 1) t ks := by
  unfold shMove
  cases hg : mget l v.1 with
  | none => exact h.mono (Nat.le_succ T)
  | some σ =>
    have hm := mget_some hg
    exact h.upd (Nat.le_succ T) ((h.inv _ hm).send _ _ _ _) ((now_send _ _ _ _ _).trans (h.time _ hm))
theorem LInv.moves {t : Int} {ks : List ByteArray} : ∀ (vs : List Mv) (l : List Nq) (T : Nat), LInv l T t ks → LInv (shMoves l vs).1 (T + vs.length) t ks
  | [], l, T, h => h
  | v :: vs, l, T, h => by
    rw [moves_step, List.length_cons, show T + (vs.length + 1) = T + 1 + vs.length by omega]
    exact LInv.moves vs _ _ (h.move v)
theorem LInv.tick {t n : Int} {ks : List ByteArray} (h : LInv l T t ks) (hn : t ≤ n ∧ n ≤ 1099511627776) : LInv (tkAll l n) T n ks := by
  refine ⟨?_, fun p hp => ?_, fun p hp => ?_⟩
  · unfold tkAll; rw [List.map_map]; exact h.keys
  · obtain ⟨x, hx, rfl⟩ := List.mem_map.1 hp
    exact (h.inv x hx).tck n
  · obtain ⟨x, hx, rfl⟩ := List.mem_map.1 hp
    refine now_tck ?_
    unfold qMay
    rw [h.time x hx]
    exact decide_eq_true hn
end
theorem ShInv.ll {S : Sh} {T : Nat} (h : ShInv S T) : LInv S.l T S.now (S.l.map (·.1)) := ⟨rfl, h.inv, h.time⟩
theorem ShInv.with {S : Sh} {T T' : Nat} (h : ShInv S T) {l : List Nq} {t : Int} (ht : 0 ≤ t ∧ t ≤ 1099511627776) (hl : LInv l T' t (S.l.map (·.1))) : ShInv { S with now := t, l := l } T' := by
  refine ⟨ht, h.ris.of_keys hl.keys, ?_, fun p hp => ?_, hl.inv, hl.time, h.lnd, h.llen, h.lwf, h.lans⟩
  · have := congrArg List.length hl.keys
    rw [List.length_map, List.length_map] at this
    show l.length ≤ 16
    rw [this]; exact h.len
  · have h1 : p.1 ∈ S.l.map (·.1) := by rw [← hl.keys]; exact List.mem_map.2 ⟨p, hp, rfl⟩
    obtain ⟨x, hx, e⟩ := List.mem_map.1 h1
    rw [← e]
    exact h.names x hx
/-- What an answer holds. -/
def AnOk (a : An) : Prop := a.ids.length ≤ 10 ∧ a.took.length ≤ 10
theorem AnOk.fail (n : Int) : AnOk (.fail n) := ⟨Nat.zero_le _, Nat.zero_le _⟩
theorem QInv.fresh {a : QA} (h : qRight a = true) {t : Int} (ht : 0 ≤ t ∧ t ≤ 1099511627776) : QInv (qTck (qNew a) t).1 0 ∧ (qTck (qNew a) t).1.now = t :=
  ⟨(QInv.new h).tck t, now_tck (by unfold qMay; exact decide_eq_true ht)⟩
theorem shHappen_ok {S : Sh} {T : Nat} (h : ShInv S T) (c : Cm) : ShInv (shHappen S c).1 (T + shGrow S c) ∧ (shHappen S c).1.last = S.last ∧ AnOk (shHappen S c).2 := by
  have same : ∀ n : Int, shHappen S c = (S, .fail n) → ShInv (shHappen S c).1 (T + shGrow S c) ∧ (shHappen S c).1.last = S.last ∧ AnOk (shHappen S c).2 := fun n e => by
    rw [e]
    exact ⟨h.mono (Nat.le_add_right _ _), rfl, AnOk.fail n⟩
  by_cases hb : c.kind < 0 ∨ 9 < c.kind
  · exact same 1 (hap_bad hb)
  by_cases h0 : c.kind = 0
  · by_cases ht : c.n < S.now ∨ 1099511627776 < c.n
    · exact same 1 ((hap_0 h0).trans (tick_no ht))
    · rw [hap_0 h0, tick_yes ht]
      have hn := h.now
      have hl := moves_len h.inv c.n
      have hlen := h.len
      refine ⟨?_, rfl, by simp [An.nums], by simp [An.nums]⟩
      exact (h.with (l := (shMoves (tkAll S.l c.n) (tkMoves S.l c.n)).1) (t := c.n) (by omega) ((LInv.moves _ _ _ (h.ll.tick (by omega))).mono (show _ ≤ T + shGrow S c by unfold shGrow; rw [if_pos h0]; exact Nat.le_refl _)))
  by_cases h1 : c.kind = 1
  · rw [hap_1 h1]
    unfold shCreate
    by_cases e1 : shMayCreate c = false
    · rw [if_pos e1]; exact ⟨h.mono (Nat.le_add_right _ _), rfl, AnOk.fail 1⟩
    rw [if_neg e1]
    by_cases e2 : (mget S.l c.queue).isSome = true
    · rw [if_pos e2]; exact ⟨h.mono (Nat.le_add_right _ _), rfl, AnOk.fail 7⟩
    rw [if_neg e2]
    by_cases e3 : 16 ≤ S.l.length
    · rw [if_pos e3]; exact ⟨h.mono (Nat.le_add_right _ _), rfl, AnOk.fail 5⟩
    rw [if_neg e3]
    have hg : mget S.l c.queue = none := by simpa using e2
    have hmay : shMayCreate c = true := by simpa using e1
    unfold shMayCreate at hmay
    simp only [Bool.and_eq_true, decide_eq_true_eq] at hmay
    obtain ⟨hr, hs⟩ := hmay
    have hf := QInv.fresh hr h.now
    have hmem : ∀ p ∈ sput S.l c.queue (qTck (qNew c.a) S.now).1, p = (c.queue, (qTck (qNew c.a) S.now).1) ∨ p ∈ S.l := fun p hp => List.mem_cons.1 ((sput_perm _ hg).mem_iff.2 hp)
    refine ⟨⟨h.now, h.ris.put _ _, ?_, fun p hp => ?_, fun p hp => ?_, fun p hp => ?_, h.lnd, h.llen, h.lwf, h.lans⟩, rfl, Nat.zero_le _, Nat.zero_le _⟩
    · show (sput S.l c.queue _).length ≤ 16
      rw [sput_len _ hg]; omega
    · rcases hmem p hp with rfl | hp
      · exact hs
      · exact h.names p hp
    · rcases hmem p hp with rfl | hp
      · exact hf.1.mono (Nat.zero_le _)
      · exact (h.inv p hp).mono (Nat.le_add_right _ _)
    · rcases hmem p hp with rfl | hp
      · exact hf.2
      · exact h.time p hp
  cases hg : mget S.l c.queue with
  | none => exact same 6 (hap_no (by omega) hg)
  | some σ =>
    have hm := mget_some hg
    by_cases h2 : c.kind = 2
    · rw [hap_2 h2 hg]
      refine ⟨⟨h.now, h.ris.filter _, ?_, fun p hp => h.names p (List.mem_filter.1 hp).1, fun p hp => (h.inv p (List.mem_filter.1 hp).1).mono (Nat.le_add_right _ _), fun p hp => h.time p (List.mem_filter.1 hp).1, h.lnd, h.llen, h.lwf, h.lans⟩, rfl, by simp [An.nums], by simp [An.nums]⟩
      exact Nat.le_trans (List.length_filter_le _ _) h.len
    · rw [hap_of (by omega) hg]
      obtain ⟨a1, a2, a3, a4⟩ := shOf_ok (h.inv _ hm) c
      refine ⟨?_, rfl, a3, a4⟩
      refine h.with (l := mupd S.l c.queue (shOf σ c).1) (t := S.now) h.now ((h.ll.upd (Nat.le_add_right T 10) a1 (a2.trans (h.time _ hm))).mono ?_)
      unfold shGrow
      rw [if_neg h0]; exact Nat.le_refl _
/-! the clients -/
section
variable {α β : Type} [DecidableEq α]
theorem lput_mem {l : List (α × β)} {k : α} {x : β} {p : α × β} (h : p ∈ lput l k x) : p = (k, x) ∨ p ∈ l := by
  unfold lput at h
  split at h
  · exact mupd_mem h
  · rcases List.mem_append.1 h with h | h
    · exact .inr h
    · exact .inl (List.mem_singleton.1 h)
theorem lput_nodup {l : List (α × β)} (hn : (l.map (·.1)).Nodup) (k : α) (x : β) : ((lput l k x).map (·.1)).Nodup := by
  unfold lput
  split
  · rw [mupd_keys]; exact hn
  · rename_i h
    have hg : mget l k = none := by simpa using h
    rw [List.map_append, List.nodup_append]
    refine ⟨hn, by simp, fun a ha b hb => ?_⟩
    obtain ⟨p, hp, rfl⟩ := List.mem_map.1 ha
    have : b = k := by simpa using hb
    subst this
    exact mget_none.1 hg p hp
end
theorem ShInv.keep {S : Sh} {T : Nat} (h : ShInv S T) {c : Cm} {a : An} (ha : AnOk a) (hc : (Lit.int .i64 c.client).wf = true) (hl : (mget S.last c.client).isSome = true ∨ S.last.length < 64) : ShInv (shKeep (S, a) c).1 T := by
  refine ⟨h.now, h.ris, h.len, h.names, h.inv, h.time, lput_nodup h.lnd _ _, ?_, fun p hp => ?_, fun p hp => ?_⟩
  · show (lput S.last c.client (c.req, a)).length ≤ 64
    unfold lput
    split
    · rw [mupd_len]; exact h.llen
    · rename_i hn
      rcases hl with hl | hl
      · exact absurd hl hn
      · rw [List.length_append]; simp; omega
  · rcases lput_mem hp with rfl | hp
    · exact hc
    · exact h.lwf p hp
  · rcases lput_mem hp with rfl | hp
    · exact ha
    · exact h.lans p hp
theorem shApply_ok {S : Sh} {T : Nat} (h : ShInv S T) (c : Cm) (hc : (Lit.int .i64 c.client).wf = true) : ShInv (shApply S c).1 (T + shGrow S c) ∧ AnOk (shApply S c).2 := by
  obtain ⟨h1, h2, h3⟩ := shHappen_ok h c
  have hm := h.mono (Nat.le_add_right T (shGrow S c))
  unfold shApply
  split
  · exact ⟨hm, AnOk.fail 1⟩
  split
  · exact ⟨h1, h3⟩
  cases hg : mget S.last c.client with
  | none =>
    dsimp only
    split
    · exact ⟨hm, AnOk.fail 5⟩
    · exact ⟨ShInv.keep (S := (shHappen S c).1) h1 h3 hc (.inr (by rw [h2]; omega)), h3⟩
  | some d =>
    dsimp only
    split
    · exact ⟨hm, h.lans _ (mget_some hg)⟩
    split
    · exact ⟨hm, AnOk.fail 11⟩
    · exact ⟨ShInv.keep (S := (shHappen S c).1) h1 h3 hc (.inl (by rw [h2, hg]; rfl)), h3⟩
end Go.Proofs.YtipdleiginnjmaaGreatDoor
