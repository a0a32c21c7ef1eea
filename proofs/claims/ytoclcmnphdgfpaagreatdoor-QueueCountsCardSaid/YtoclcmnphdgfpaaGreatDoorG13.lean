/- Put together: What came in reads as plain data whose strings are no longer than memory: as Open, with the form's own reach. No program in it. · daisychainlaw08: the calls of layer 8's statements, as they lie in memory; Few. · The calls of layer 8's statements as an argument. -/
import Derived.Test.YtoclcmnphdgfpaaGreatDoorG1
import Derived.Test.YtoclcmnphdgfpaaGreatDoorG8
import Derived.Test.YtoclcmnphdgfpaaGreatDoorG6
set_option linter.unusedVariables false
set_option linter.unusedSimpArgs false
namespace Go.Proofs.YtoclcmnphdgfpaaGreatDoor
open Go.RowKit Go.Proofs.YtoclcmnphdgfpaaGreatDoorW.PrintWords Go.Deep

/-- Whatever the form reads at type t, within its reach, is data of kind d (that meets ok). -/
structure OpensW {α : Type} (P : Program) (t : TypeId) (d : Kd α) (ok : α → Prop) : Prop where
  cells : P.cellsOf t = d.sz
  get : ∀ {H : Type} {enc : TypeId × Value → H} {w : World} {held : Bool} {fuel : Nat} {cs : List Value} {x : DataW H × List MemPlace},
    DataW.trod enc P w 0 (fun _ => true) held fuel t cs = some x → (∀ n ∈ x.1.weights P t, n ≤ reachBytes) → ∃ a, d.K w a cs ∧ ok a
theorem opensW_of {α : Type} {P : Program} {t : TypeId} {d : Kd α} {ok : α → Prop} (h : Opens P t d ok) : OpensW P t d ok := ⟨h.cells, fun hx _ => h.get hx⟩
theorem opensW_string {P : Program} {t : TypeId} (ht : P.underlying t = some .string) (hc : P.cellsOf t = 1) : OpensW P t Kd.string (fun s => s.size ≤ reachBytes) :=
  ⟨hc, fun h hw => by
    obtain ⟨s, rfl, rfl, _⟩ := DataW.trod_string ht h
    refine ⟨s, rfl, ?_⟩
    have h1 : s.data.toList.length ≤ reachBytes := hw s.data.toList.length (by unfold DataW.weights; exact List.mem_singleton.2 rfl)
    rw [Array.length_toList] at h1
    exact h1⟩
theorem weightsAll_mem {H : Type} {P : Program} {e : TypeId} {d : DataW H} : ∀ {ds : List (DataW H)}, d ∈ ds → ∀ n ∈ d.weights P e, n ∈ DataW.weightsAll P e ds
  | d0 :: ds, hd, n, hn => by
    simp only [DataW.weightsAll, List.mem_append]
    rcases List.mem_cons.1 hd with rfl | hd
    · exact .inl hn
    · exact .inr (weightsAll_mem hd n hn)
theorem opensW_slice {α : Type} {P : Program} {t e : TypeId} {d : Kd α} {ok : α → Prop} (ht : P.underlying t = some (.slice e)) (hc : P.cellsOf t = 1) (he : OpensW P e d ok) : OpensW P t (Kd.slice e d) (fun xs => ∀ x ∈ xs, ok x) := by
  refine ⟨hc, fun {H enc w held fuel cs x} h hw => ?_⟩
  rcases open_slice ht h with ⟨rfl, _⟩ | ⟨a, len, cap, m, n, D, Pl, rfl, _, hl, hm, hmm, rfl, hel⟩
  · exact ⟨[], ⟨none, 0, rfl, Nat.le_refl _, Kd.C_nil _ _⟩, by simp⟩
  · have hle : len ≤ m := by rw [hmm]; simpa using hl
    have hwd : ∀ i, i < len → ∀ n ∈ (D i).weights P e, n ≤ reachBytes := fun i hi n hn => hw n (by
      simp only [DataW.weights, ht]
      exact List.mem_cons_of_mem _ (List.mem_append_left _ (weightsAll_mem (List.mem_map.2 ⟨i, List.mem_range.2 hi, rfl⟩) n hn)))
    have hex : ∀ i, i < len → ∃ x : α × List Value, d.K w x.1 x.2 ∧ ok x.1 ∧ x.2.length = d.sz ∧ ∀ j u, x.2[j]? = some u → w.cell? (a.add (i * d.sz + j)) = some u := by
      intro i hi
      obtain ⟨cs', h1, h2⟩ := hel i (by omega)
      obtain ⟨b, hK, hok⟩ := he.get h2 (hwd i hi)
      refine ⟨(b, cs'), hK, hok, d.K_len hK, fun j u hu => ?_⟩
      rw [he.cells] at h1
      obtain ⟨_, hlen, hcell⟩ := World.cells?_some h1
      have hj : j < cs'.length := (List.getElem?_eq_some_iff.1 hu).1
      have := hcell j (by omega)
      rw [Deep.add_add] at this
      rw [this]
      exact hu
    by_cases h0 : len = 0
    · subst h0
      exact ⟨[], ⟨some a, cap, rfl, by simp, rfl, by simp, fun h => absurd h (by simp)⟩, by simp⟩
    · obtain ⟨x0, _⟩ := hex 0 (by omega)
      haveI : Inhabited (α × List Value) := ⟨x0⟩
      obtain ⟨f, hf⟩ := choose_lt hex
      have hlen : ((List.range len).map fun i => (f i).1).length = len := by simp
      refine ⟨(List.range len).map fun i => (f i).1, ⟨some a, cap, by rw [hlen], by rw [hlen]; exact hl, ?_⟩, ?_⟩
      · refine ⟨rfl, by rw [hlen]; unfold maxLen at hm; omega, fun _ => ⟨a, rfl, fun j p hj => ?_⟩⟩
        have hjl : j < len := by
          have := (List.getElem?_eq_some_iff.1 hj).1
          rwa [hlen] at this
        have hp : p = (f j).1 := by
          rw [List.getElem?_map, List.getElem?_range hjl] at hj
          simpa using hj.symm
        subst hp
        exact ⟨(f j).2, (hf j hjl).2.2.1, (hf j hjl).1, (hf j hjl).2.2.2⟩
      · intro y hy
        obtain ⟨i, hi, rfl⟩ := List.mem_map.1 hy
        exact (hf i (List.mem_range.1 hi)).2.1
/-- The fields of a struct from an offset on. -/
inductive FieldsW (P : Program) : {β : Type} → List Field → Nat → Kd β → (β → Prop) → Prop
  | last {α : Type} {f : Field} {off : Nat} {d : Kd α} {ok : α → Prop} (h : OpensW P f.type d ok) (ho : f.offset = off) : FieldsW P [f] off d ok
  | cons {α β : Type} {f : Field} {fs : List Field} {off off' : Nat} {d : Kd α} {ok : α → Prop} {d2 : Kd β} {ok2 : β → Prop} (h : OpensW P f.type d ok) (ho : f.offset = off) (h2 : FieldsW P fs off' d2 ok2) (ho' : off' = off + d.sz) :
      FieldsW P (f :: fs) off (Kd.pair d d2) (fun x => ok x.1 ∧ ok2 x.2)
theorem FieldsW.get {P : Program} {β : Type} {fs : List Field} {off : Nat} {d : Kd β} {ok : β → Prop} (h : FieldsW P fs off d ok) {H : Type} {enc : TypeId × Value → H} {w : World} {held : Bool} {n : Nat} {cs : List Value}
    (hlen : cs.length = off + d.sz)
    (hf : ∀ f, f ∈ fs → ∃ y, DataW.trod enc P w 0 (fun _ => true) held n f.type ((cs.drop f.offset).take (P.cellsOf f.type)) = some y ∧ ∀ k ∈ y.1.weights P f.type, k ≤ reachBytes) : ∃ a, d.K w a (cs.drop off) ∧ ok a := by
  induction h with
  | @last α f off d ok h ho =>
    obtain ⟨y, hy, hyw⟩ := hf f (by simp)
    obtain ⟨a, hK, hok⟩ := h.get hy hyw
    rw [h.cells, ho, List.take_of_length_le (by rw [List.length_drop]; omega)] at hK
    exact ⟨a, hK, hok⟩
  | @cons α β f fs off off' d ok d2 ok2 h ho h2 ho' ih =>
    obtain ⟨y, hy, hyw⟩ := hf f (by simp)
    obtain ⟨a, hK, hok⟩ := h.get hy hyw
    rw [h.cells, ho] at hK
    have hsz : (Kd.pair d d2).sz = d.sz + d2.sz := rfl
    obtain ⟨b, hK2, hok2⟩ := ih (by omega) (fun g hg => hf g (List.mem_cons_of_mem _ hg))
    refine ⟨(a, b), ⟨(cs.drop off).take d.sz, cs.drop off', ?_, hK, hK2⟩, hok, hok2⟩
    rw [ho', ← List.drop_drop, List.take_append_drop]
theorem opensW_struct {P : Program} {β : Type} {t : TypeId} {fs : Array Field} {d : Kd β} {ok : β → Prop} (ht : P.underlying t = some (.struct fs)) (hc : P.cellsOf t = d.sz) (h : FieldsW P fs.toList 0 d ok) : OpensW P t d ok := by
  refine ⟨hc, fun {H enc w held fuel cs x} hx hw => ?_⟩
  obtain ⟨xs, n, _, rfl, hl, hlen, hf⟩ := DataW.trod_struct ht hx
  refine FieldsW.get h (cs := cs) (n := n) (enc := enc) (held := held) (by rw [hl, hc]; omega) (fun f hfm => ?_)
  obtain ⟨i, hi, rfl⟩ := List.getElem_of_mem hfm
  have hi' : i < fs.size := by simpa using hi
  have h1 := hf i fs[i] (by simp [hi'])
  have h2 : i < xs.length := by omega
  refine ⟨xs[i], ?_, fun k hk => hw k ?_⟩
  · rw [List.getElem?_eq_getElem h2] at h1
    simpa using h1
  · simp only [DataW.weights, ht]
    refine DataW.weights_mem_each (j := i) (t := fs.toList[i].type) (d := xs[i].1) ?_ ?_ k hk
    · rw [List.getElem?_map, List.getElem?_eq_getElem hi]
      rfl
    · rw [List.getElem?_map, List.getElem?_eq_getElem h2]
      rfl
/-- An argument that is a slice, within the form's reach. -/
theorem arg_sliceW {α : Type} {P : Program} {t e : TypeId} {d : Kd α} {ok : α → Prop} (ht : P.underlying t = some (.slice e)) (hc : P.cellsOf t = 1) (he : OpensW P e d ok) {H : Type} {enc : TypeId × Value → H} {w : World} {held : Bool} {a : Option Addr} {len cap : Nat} {y : DataW H} {ps : List MemPlace}
    (h : DataW.Trod enc P w 0 (fun _ => true) held t (.slice a len cap) y ps) (hw : ∀ n ∈ y.weights P t, n ≤ reachBytes) : ∃ xs : List α, d.C w a len xs ∧ len ≤ cap ∧ ∀ x ∈ xs, ok x := by
  obtain ⟨fuel, hf⟩ := h
  obtain ⟨xs, ⟨A, c, hcs, hle, hC⟩, hok⟩ := (opensW_slice ht hc he).get hf hw
  have hcs' : [Value.slice a len cap] = [.slice A xs.length c] := by simpa [Value.cells] using hcs
  injection hcs' with h1 _
  injection h1 with h1 h2 h3
  subst h1 h2 h3
  exact ⟨xs, hC, hle, hok⟩
end Go.Proofs.YtoclcmnphdgfpaaGreatDoor
set_option linter.unusedVariables false
set_option linter.unusedSimpArgs false
namespace Go.Proofs.YtoclcmnphdgfpaaGreatDoor
open Go.RowKit Go.Proofs.YtoclcmnphdgfpaaGreatDoorW.PrintWords
/-- A call: Kind, N, M, Body, Group, Key, Receipt, A. -/
abbrev QOp := Int × (Int × (Int × (ByteArray × (ByteArray × (ByteArray × (ByteArray × QT))))))
def KQOp : Kd QOp := Kd.pair (Kd.int .i64) (Kd.pair (Kd.int .i64) (Kd.pair (Kd.int .i64) (Kd.pair Kd.string (Kd.pair Kd.string (Kd.pair Kd.string (Kd.pair Kd.string KQA))))))
def opCells (x : QOp) : List Value := [.int .i64 x.1, .int .i64 x.2.1, .int .i64 x.2.2.1, .string x.2.2.2.1, .string x.2.2.2.2.1, .string x.2.2.2.2.2.1, .string x.2.2.2.2.2.2.1] ++ (QA.of x.2.2.2.2.2.2.2).cells
theorem KQOp_inv {w : World} {x : QOp} {c : List Value} (h : KQOp.K w x c) : c = opCells x := by
  obtain ⟨c0, d0, rfl, h0, c1, d1, rfl, h1, c2, d2, rfl, h2, c3, d3, rfl, h3, c4, d4, rfl, h4, c5, d5, rfl, h5, c6, d6, rfl, h6, h7⟩ := h
  have h0 : c0 = [.int .i64 x.1] := h0
  have h1 : c1 = [.int .i64 x.2.1] := h1
  have h2 : c2 = [.int .i64 x.2.2.1] := h2
  have h3 : c3 = [.string x.2.2.2.1] := h3
  have h4 : c4 = [.string x.2.2.2.2.1] := h4
  have h5 : c5 = [.string x.2.2.2.2.2.1] := h5
  have h6 : c6 = [.string x.2.2.2.2.2.2.1] := h6
  have h7 := KQA_inv h7
  subst h0 h1 h2 h3 h4 h5 h6 h7
  rfl
theorem C_nth_qop {w : World} {A : Option Addr} {n : Nat} {l : List QOp} (h : KQOp.C w A n l) (k : Nat) (hk : k < n) :
    ∃ ad x, A = some ad ∧ l[k]? = some x ∧ w.cell? (ad.add (k * 14)) = some (.int .i64 x.1) ∧ ∀ j v, 0 < j → (opCells x)[j]? = some v → w.cell? ⟨(ad.add (k * 14)).block, (ad.add (k * 14)).off + j, none⟩ = some v := by
  obtain ⟨ad, x, c, hA, hx, _, hK, h3⟩ := C_nth h k hk
  have hc := KQOp_inv hK
  subst hc
  have hsz : KQOp.sz = 14 := rfl
  rw [hsz] at h3
  refine ⟨ad, x, hA, hx, h3 0 _ rfl, fun j v h0 hv => ?_⟩
  have hj : j < 14 := (List.getElem?_eq_some_iff.1 hv).1
  have := h3 j v hv
  rw [← add_field ad _ j (by omega)]
  exact this
def opLen (x : QOp) : Nat := x.2.2.2.1.size + x.2.2.2.2.1.size + x.2.2.2.2.2.1.size + x.2.2.2.2.2.2.1.size
def opWf (x : QOp) : Prop := x.2.2.2.1.size ≤ 140737488351232 ∧ x.2.2.2.2.1.size ≤ 140737488351232 ∧ x.2.2.2.2.2.1.size ≤ 140737488351232 ∧ x.2.2.2.2.2.2.1.size ≤ 140737488351232
def opSum (l : List QOp) : Nat := (l.map opLen).sum
def fewB (l : List QOp) : Bool := decide (l.length ≤ 60) && decide (opSum l ≤ 4000)
theorem opSum_snoc {l : List QOp} {k : Nat} {x : QOp} (h : l[k]? = some x) : opSum (l.take (k + 1)) = opSum (l.take k) + opLen x := by
  unfold opSum
  rw [List.take_add_one, h]
  simp
theorem opSum_le {l : List QOp} (h : ∀ x ∈ l, opWf x) : opSum l ≤ l.length * (4 * 140737488351232) := by
  unfold opSum
  induction l with
  | nil => simp
  | cons x l ih =>
    have h1 := ih (fun y hy => h y (List.mem_cons_of_mem _ hy))
    have h2 := h x List.mem_cons_self
    unfold opWf at h2
    have h3 : opLen x ≤ 4 * 140737488351232 := by unfold opLen; omega
    rw [List.map_cons, List.sum_cons, List.length_cons, Nat.succ_mul]
    omega
set_option maxHeartbeats 3200000 in
set_option maxRecDepth 100000 in
theorem few_any (A : Option Addr) (n c : Nat) (l : List QOp) (w : World) (hC : KQOp.C w A n l) (hl : l.length = n) (hok : ∀ x ∈ l, opWf x) :
    Calls Tryz.prog 21 #[.slice A n c] w fun e w' => e = .returned (.bool (fewB l)) ∧ Below w.heap.size w w' := by
  have HC := Lib.hid hC
  have HL := Lib.hid hl
  have HOK := Lib.hid hok
  clear hC hl hok
  go_enter Tryz.func21, Tryz.ntmps21
  go_wp2_with fail
  go_loopw [4, 3] (fun i s wr => ∃ k : Nat, i = .int .i64 k ∧ s = .int .i64 (opSum (l.take k)) ∧ k ≤ n ∧ k ≤ 61 ∧ Below w.heap.size w wr) (fun i _ _ => 61 - (intOf i).toNat)
  case atStart => exact ⟨0, rfl, rfl, Nat.zero_le _, by omega, Below.refl _ _⟩
  case round =>
    obtain ⟨k, rfl, rfl, hk, hk2, hB⟩ := hrel
    have HB := Lib.hid hB
    clear hB
    have hS := opSum_le (l := l.take k) (fun x hx => HOK.out x (List.mem_of_mem_take hx))
    have hS2 : opSum (l.take k) ≤ 61 * (4 * 140737488351232) := Nat.le_trans hS (Nat.mul_le_mul_right _ (by rw [List.length_take]; omega))
    have HS := Lib.hid hS2
    clear hS hS2
    by_cases h1 : k < n
    case pos =>
      have i0 : (k : Int) < (n : Int) := by omega
      by_cases h2 : k ≤ 60
      · obtain ⟨ad, x, rfl, hx, e0, hce⟩ := C_nth_qop (Kd.C_below HC.out HB.out) k h1
        have HSN := Lib.hid (opSum_snoc hx)
        have hwf := HOK.out x (List.mem_of_getElem? hx)
        have e3 := hce 3 _ (by decide) rfl
        have e4 := hce 4 _ (by decide) rfl
        have e5 := hce 5 _ (by decide) rfl
        have e6 := hce 6 _ (by decide) rfl
        obtain ⟨z1, z2, z3, s3, s4, s5, s6, za⟩ := x
        dsimp only [opCells] at e3 e4 e5 e6
        unfold opWf at hwf
        dsimp only at hwf
        unfold opLen at HSN
        dsimp only at HSN
        obtain ⟨t, ht⟩ : ∃ t, t = opSum (l.take k) := ⟨_, rfl⟩
        rw [← ht] at HS HSN ⊢
        have htb := HS.out
        have i2 : (k : Int) ≤ 60 := by omega
        have i3 : (0 : Int) ≤ (k : Int) := by omega
        have w1 : IntKind.i64.wrap ((s3.size : Int) + (s4.size : Int)) = (s3.size : Int) + (s4.size : Int) := IntWalk.i64_in _ (by omega)
        have w2 : IntKind.i64.wrap ((s3.size : Int) + (s4.size : Int) + (s5.size : Int)) = (s3.size : Int) + (s4.size : Int) + (s5.size : Int) := IntWalk.i64_in _ (by omega)
        have w3 : IntKind.i64.wrap ((s3.size : Int) + (s4.size : Int) + (s5.size : Int) + (s6.size : Int)) = (s3.size : Int) + (s4.size : Int) + (s5.size : Int) + (s6.size : Int) := IntWalk.i64_in _ (by omega)
        have w4 : IntKind.i64.wrap ((t : Int) + ((s3.size : Int) + (s4.size : Int) + (s5.size : Int) + (s6.size : Int))) = (t : Int) + ((s3.size : Int) + (s4.size : Int) + (s5.size : Int) + (s6.size : Int)) := IntWalk.i64_in _ (by omega)
        clear hx hce ht htb hwf e0
        go_wp2_with fail
        go_quiet (fail)
        have HBd := Lib.hid (HB.out.trans (pw_below_drewN (Below.refl _ _) nq))
        clear w1 w2 w3 w4 e3 e4 e5 e6
        generalize wr.drewN nq = wd at *
        go_wp2_with fail
        refine ⟨⟨k + 1, by simp, ?_, by omega, by omega, HBd.out⟩, ?_⟩
        · rw [HSN.out]
          simp
        · simp [intOf]
          omega
      · obtain rfl : k = 61 := by omega
        have HF := Lib.hid (show fewB l = false by
          unfold fewB
          rw [decide_eq_false (by have := HL.out; omega)]
          rfl)
        have i2 : (60 : Int) < (n : Int) := by omega
        go_wp2_with fail
        go_ret
        exact ⟨by rw [HF.out]; rfl, HB.out⟩
    case neg =>
      obtain rfl : k = n := by omega
      have hT : l.take k = l := List.take_of_length_le (by have := HL.out; omega)
      rw [hT] at HS ⊢
      obtain ⟨t, ht⟩ : ∃ t, t = opSum l := ⟨_, rfl⟩
      have HF := Lib.hid (show fewB l = (decide (k ≤ 60) && decide (t ≤ 4000)) by
        unfold fewB
        rw [HL.out, ht])
      rw [← ht]
      clear hT ht
      by_cases h3 : (k : Int) ≤ 60
      · by_cases h4 : (t : Int) ≤ 4000
        · have HF2 := Lib.hid (show fewB l = true by rw [HF.out, decide_eq_true (by omega : k ≤ 60), decide_eq_true (by omega : t ≤ 4000)]; rfl)
          go_wp2_with fail
          go_ret
          exact ⟨by rw [HF2.out]; rfl, HB.out⟩
        · have HF2 := Lib.hid (show fewB l = false by rw [HF.out, decide_eq_false (by omega : ¬ t ≤ 4000), Bool.and_false])
          go_wp2_with fail
          go_ret
          exact ⟨by rw [HF2.out]; rfl, HB.out⟩
      · have HF2 := Lib.hid (show fewB l = false by rw [HF.out, decide_eq_false (by omega : ¬ k ≤ 60), Bool.false_and])
        go_wp2_with fail
        go_ret
        exact ⟨by rw [HF2.out]; rfl, HB.out⟩
end Go.Proofs.YtoclcmnphdgfpaaGreatDoor
namespace Go.Proofs.YtoclcmnphdgfpaaGreatDoor
open Go.RowKit Go.Proofs.YtoclcmnphdgfpaaGreatDoorW.PrintWords
theorem OpensW.mono {α : Type} {P : Program} {t : TypeId} {d : Kd α} {ok ok' : α → Prop} (h : OpensW P t d ok) (hm : ∀ a, ok a → ok' a) : OpensW P t d ok' :=
  ⟨h.cells, fun hx hw => by obtain ⟨a, h1, h2⟩ := h.get hx hw; exact ⟨a, h1, hm a h2⟩⟩
set_option maxRecDepth 100000 in
theorem opensW_qop : OpensW Tryz.prog 52 KQOp opWf :=
  OpensW.mono (opensW_struct Tryz.underlying52 (by kernel_rfl)
    (FieldsW.cons (opensW_of (opens_int (k := .i64) Tryz.underlying3 (by kernel_rfl))) rfl
    (FieldsW.cons (opensW_of (opens_int (k := .i64) Tryz.underlying3 (by kernel_rfl))) rfl
    (FieldsW.cons (opensW_of (opens_int (k := .i64) Tryz.underlying3 (by kernel_rfl))) rfl
    (FieldsW.cons (opensW_string Tryz.underlying9 (by kernel_rfl)) rfl
    (FieldsW.cons (opensW_string Tryz.underlying9 (by kernel_rfl)) rfl
    (FieldsW.cons (opensW_string Tryz.underlying9 (by kernel_rfl)) rfl
    (FieldsW.cons (opensW_string Tryz.underlying9 (by kernel_rfl)) rfl
    (FieldsW.last (opensW_of opens_qa) rfl) rfl) rfl) rfl) rfl) rfl) rfl) rfl))
    (fun _ h => ⟨h.2.2.2.1, h.2.2.2.2.1, h.2.2.2.2.2.1, h.2.2.2.2.2.2.1⟩)
end Go.Proofs.YtoclcmnphdgfpaaGreatDoor
