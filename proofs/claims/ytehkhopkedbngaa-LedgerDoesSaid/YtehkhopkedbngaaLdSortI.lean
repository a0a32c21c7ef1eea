/- ledger.Ledger.Sweep: the order of what is past, and slices.SortFunc by it. -/
import Derived.Test.YtehkhopkedbngaaLdMemI
import Derived.Test.YtehkhopkedbngaaOrInt
import Derived.Test.YtehkhopkedbngaaSortRow
import Derived.Test.YtehkhopkedbngaaShelfSortS
import Derived.Test.YtehkhopkedbngaaShelfStrCmp
import Derived.Deep.RegionHeld3
namespace Go.Proofs.Ytehkhopkedbngaa
open Go.RowKit Go.Proofs.YtehkhopkedbngaaW.PrintWords
open Go.Sort (grow putRow putCells ahead mapBlock Holds SWO PermIn SortedIn cell?_grow cell?_putRow_other size_putRow grow_empty heap_grow_old alloc_eq_grow grow_grow)

def cmpB (a b : ByteArray) : Int := Lib.compareBytes a.data.toList b.data.toList
theorem compareBytes_lt : ∀ (x y : List UInt8), (Lib.compareBytes x y < 0 ↔ x < y) ∧ (Lib.compareBytes x y = 0 ↔ x = y)
  | [], [] => by simp [Lib.compareBytes]
  | _ :: _, [] => by simp [Lib.compareBytes]
  | [], _ :: _ => by simp [Lib.compareBytes]
  | a :: x, b :: y => by
    have ih := compareBytes_lt x y
    rw [Lib.compareBytes, List.cons_lt_cons_iff]
    by_cases h1 : a < b
    · have : a ≠ b := fun e => by subst e; exact absurd h1 (by simp)
      simp [h1, this]
    · by_cases h2 : b < a
      · have : a ≠ b := fun e => by subst e; exact absurd h2 (by simp)
        simp [h1, h2, this]
      · have e : a = b := UInt8.le_antisymm (by simpa using h2) (by simpa using h1)
        subst e
        simp [ih.1, ih.2]
theorem cmpB_lt (a b : ByteArray) : cmpB a b < 0 ↔ bl a b := (compareBytes_lt _ _).1
theorem cmpB_eq (a b : ByteArray) : cmpB a b = 0 ↔ a = b := (compareBytes_lt _ _).2.trans ⟨fun h => Go.WideShapes.bytes_inj h, fun h => by rw [h]⟩
theorem cmpI_eq (a b : Int) : cmpI a b = 0 ↔ a = b := by
  unfold cmpI
  by_cases h : a < b
  · simp [h]; omega
  · by_cases h' : b < a
    · simp [h, h']; omega
    · simp [h, h']; omega
theorem strCmp_any (a b : ByteArray) (w : World) : Calls Try.prog 34 #[.string a, .string b] w fun e w' => e = .returned (.int .i64 (cmpB a b)) ∧ w = w' :=
  Calls.mono (Any.strings_Compare Try.strCmp a b w) fun _ _ h => ⟨h.1, h.2.symm⟩

abbrev Wstr := {x : ByteArray // x.size ≤ maxLen}
instance : Inhabited Wstr := ⟨⟨ByteArray.empty, by decide⟩⟩
def untilOf (r : List (Ent Int)) (k : ByteArray) : Int := (ldIGet r k).1.2
def ordE (r : List (Ent Int)) (x y : Wstr) : Int := orI (cmpI (untilOf r x.1) (untilOf r y.1)) (cmpB x.1 y.1)
theorem untilOf_mem {r : List (Ent Int)} (h : Rising r) {p : Ent Int} (hp : p ∈ r) : untilOf r p.1 = p.2.2 := by unfold untilOf ldIGet; rw [mget_mem h.keys hp]
theorem ordE_lt (r : List (Ent Int)) (x y : Wstr) : ordE r x y < 0 ↔ untilOf r x.1 < untilOf r y.1 ∨ untilOf r x.1 = untilOf r y.1 ∧ bl x.1 y.1 := by
  unfold ordE orI
  by_cases h : cmpI (untilOf r x.1) (untilOf r y.1) = 0
  · rw [if_pos h, cmpB_lt]
    rw [cmpI_eq] at h
    constructor
    · intro h2; exact .inr ⟨h, h2⟩
    · rintro (h2 | h2)
      · omega
      · exact h2.2
  · rw [if_neg h, cmpI_lt]
    rw [cmpI_eq] at h
    constructor
    · intro h2; exact .inl h2
    · rintro (h2 | h2)
      · exact h2
      · exact absurd h2.1 h
theorem ltOf_ordE (r : List (Ent Int)) (x y : Wstr) : ltOf (ordE r) x y = decide (untilOf r x.1 < untilOf r y.1 ∨ untilOf r x.1 = untilOf r y.1 ∧ bl x.1 y.1) := decide_eq_decide.2 (ordE_lt r x y)
theorem ordE_swo (r : List (Ent Int)) : SWO (ltOf (ordE r)) where
  irrefl x := by
    rw [ltOf_ordE, decide_eq_false_iff_not]
    rintro (h | h)
    · omega
    · exact bl_irrefl _ h.2
  trans x y z h1 h2 := by
    rw [ltOf_ordE, decide_eq_true_iff] at *
    rcases h1 with h1 | h1 <;> rcases h2 with h2 | h2
    · left; omega
    · left; omega
    · left; omega
    · right; exact ⟨by omega, bl_trans h1.2 h2.2⟩
  ntrans x y z h1 h2 := by
    rw [ltOf_ordE, decide_eq_false_iff_not] at *
    rintro (h | h)
    · by_cases e1 : untilOf r x.1 < untilOf r y.1
      · exact h1 (.inl e1)
      · exact h2 (.inl (by omega))
    · by_cases e1 : untilOf r x.1 < untilOf r y.1
      · exact h1 (.inl e1)
      · by_cases e2 : untilOf r y.1 < untilOf r z.1
        · exact h2 (.inl e2)
        · have e3 : untilOf r x.1 = untilOf r y.1 := by omega
          have e4 : untilOf r y.1 = untilOf r z.1 := by omega
          rcases Classical.em (y.1 = z.1) with e | e
          · exact h1 (.inr ⟨e3, by rw [e]; exact h.2⟩)
          · rcases bl_tri e with h3 | h3
            · exact h2 (.inr ⟨e4, h3⟩)
            · exact h1 (.inr ⟨e3, bl_trans h.2 h3⟩)

set_option maxHeartbeats 800000 in
theorem sweep_cl (x y : Wstr) (W : World) (lb mb box : Nat) (room : Int) (r : List (Ent Int)) (ok : Nat → Prop) (hb : W.cell? ⟨box, 0, none⟩ = some (.pointer (some ⟨lb, 0, none⟩))) (hV : LdIV W ok lb mb room r) :
    Calls Try.prog 31 #[.string x.1, .string y.1, .pointer (some ⟨box, 0, none⟩)] W fun e w' => e = .returned (.int .i64 (ordE r x y)) ∧ ∃ q os', w' = grow (W.drewN q) os' := by
  obtain ⟨x, hx⟩ := x
  obtain ⟨y, hy⟩ := y
  have lk : ∀ k : ByteArray, k.size ≤ maxLen → (Instr.lookup 58 (.map (some mb)) (.string k) false).run Try.prog W.drew = .ok (.agg #[.int .i64 (ldIGet r k).1.1, .int .i64 (untilOf r k)]) W.drew := fun k hk => by
    have hlk := (show MapAt KLI encLI W.drew mb r from hV.map).look1 under_ldI (zero_ldI _) (a := k) hk
    unfold untilOf ldIGet
    cases hm : mget r k with
    | none => rw [hm] at hlk; exact hlk
    | some v => rw [hm] at hlk; exact hlk
  have k1 := lk x hx
  have k2 := lk y hy
  obtain ⟨t0, t1, _⟩ := hV.cells
  have hbl : box < W.heap.size := by
    unfold World.cell? at hb
    by_cases h : box < W.heap.size
    · exact h
    · rw [show W.heap[(⟨box, 0, none⟩ : Addr).block]? = none from Array.getElem?_eq_none (by show W.heap.size ≤ box; omega)] at hb; simp at hb
  clear hV lk
  show Calls Try.prog 31 #[.string x, .string y, .pointer (some ⟨box, 0, none⟩)] W fun e w' => e = .returned (.int .i64 (orI (cmpI (untilOf r x) (untilOf r y)) (cmpB x y))) ∧ ∃ q os', w' = grow (W.drewN q) os'
  generalize untilOf r x = tx at *
  generalize untilOf r y = ty at *
  generalize (ldIGet r x).1.1 = vx at *
  generalize (ldIGet r y).1.1 = vy at *
  have f1 : ∀ w : World, (Instr.field 62 (.agg #[.int .i64 vx, .int .i64 tx]) 1).run Try.prog w = .ok (.int .i64 tx) w := fun w => by kernel_rfl
  have f2 : ∀ w : World, (Instr.field 62 (.agg #[.int .i64 vy, .int .i64 ty]) 1).run Try.prog w = .ok (.int .i64 ty) w := fun w => by kernel_rfl
  have hnew := heap_alloc_new W.drew (.cells #[.int .i64 (cmpI tx ty), .int .i64 (cmpB x y)] 3)
  have HNEW := Lib.hid hnew
  clear hnew
  go_enter Try.func31, Try.ntmps31
  go_wp2_with fail
  go_region_held3 (fun w' => w'.cell? ⟨box, 0, none⟩ = some (.pointer (some ⟨lb, 0, none⟩)) ∧ w'.cell? ⟨lb, 1, none⟩ = some (.map (some mb))) (go_keep) (first | (go_at_call 33; refine (cmpInt_any _ _ _).mono ?_; rintro e w' ⟨rfl, rfl⟩) | (go_at_call 34; refine (strCmp_any _ _ _).mono ?_; rintro e w' ⟨rfl, rfl⟩) | (go_at_call 32; refine (orInt_any _ _ _ _ _ HNEW.out).mono ?_; rintro e w' ⟨rfl, rfl⟩))
  all_goals
    go_wp2
    go_ret
    exact ⟨rfl, 1, #[_], by rw [alloc_eq_grow]; rfl⟩

theorem wstrs {l : List ByteArray} (h : ∀ x ∈ l, x.size ≤ maxLen) : ∃ lw : List Wstr, lw.map (·.1) = l := by
  induction l with
  | nil => exact ⟨[], rfl⟩
  | cons x l ih =>
    obtain ⟨lw, e⟩ := ih (fun y hy => h y (List.mem_cons_of_mem _ hy))
    exact ⟨⟨x, h x (List.mem_cons_self ..)⟩ :: lw, by rw [List.map_cons, e]⟩
/-- A row of keys of the call's own, sorted. -/
theorem sortE_any (w : World) (ok okR : Nat → Prop) (lb mb box : Nat) (room : Int) (r : List (Ent Int)) (now : Int) (hV : LdIV w ok lb mb room r) (hbox : w.heap[box]? = some (.cells #[.pointer (some ⟨lb, 0, none⟩)] 24 (0, 0))) (b : Nat) (A : Option Addr) (n cap : Nat) (l : List ByteArray)
    (hR : Kd.string.R 9 w b okR (.slice A n cap) l) (hd : ∀ k, okR k → ¬ ok k ∧ k ≠ box) (hp : l.Perm ((r.filter (fun p => decide (p.2.2 ≤ now))).map (·.1))) (hn : n ≤ 1000000) :
    Calls Try.prog 30 #[.slice A n cap, .func (.func 31) #[] #[.pointer (some ⟨box, 0, none⟩)]] w fun e w' => e = .returned (.tuple #[]) ∧ Kd.string.R 9 w' b okR (.slice A n cap) ((past r now).map (·.1)) ∧ Keep okR w w' := by
  obtain ⟨hnl, _, _⟩ := Kd.R_reads' hR
  have hwf : ∀ x ∈ l, x.size ≤ maxLen := fun x hx => by
    obtain ⟨p, hp2, rfl⟩ := List.mem_map.1 (hp.mem_iff.1 hx)
    exact hV.map.oks p (List.mem_filter.1 hp2).1
  have hpl : l.Perm ((past r now).map (·.1)) := hp.trans ((past_perm r now).symm.map _)
  rcases Nat.eq_zero_or_pos n with h0 | h0
  · subst h0
    have hl0 : l = [] := List.eq_nil_of_length_eq_zero hnl.symm
    subst hl0
    have hs0 : (past r now).map (·.1) = [] := List.nil_perm.1 hpl
    rw [hs0]
    have hc := AnyF.slices_SortFunc_none { Try.sortStr with } A cap (.func (.func 31) #[] #[.pointer (some ⟨box, 0, none⟩)]) w
    refine Calls.mono hc ?_
    rintro e w' ⟨rfl, rfl⟩
    exact ⟨rfl, hR, Keep.refl _ _⟩
  · obtain ⟨g, cap', hv, hbg, hgl, cells, hg⟩ := Kd.R_form hR (by omega)
    injection hv with hA hx hc
    subst hA hc
    have hokg := hR.1 g rfl
    have hng := hd g hokg
    obtain ⟨lw, hlw⟩ := wstrs hwf
    subst hlw
    have eg : ∀ args w, (callFunc 31 args).run Try.prog w = .ok (.enter 31 args) w := enters_of Try.func31 (by kernel_rfl) rfl
    have hcmp : CmpLays1 Try.prog 31 #[.pointer (some ⟨box, 0, none⟩)] (fun x : Wstr => Value.string x.1) (ordE r) g 0 lw.toArray.size w := by
      intro m os dk _ x y
      have hk : ∀ k, k ≠ g → k < w.heap.size → (sortWorld (fun x : Wstr => Value.string x.1) w g 0 m dk os).heap[k]? = w.heap[k]? := fun k h1 h2 => swHeap _ _ _ _ _ _ _ h1 h2
      have hhb := (hk box (Ne.symm hng.2) (blk_lt hbox)).trans hbox
      refine sweep_cl x y _ lb mb box room r ok ?_ (hV.move (fun k hk' hl => hk k (fun e => hng.1 (e ▸ hk')) hl))
      have := blk_cell hhb 0
      simpa using this
    have hH : Holds (fun x : Wstr => Value.string x.1) w g 0 lw.toArray := holdsMap (fun x : Wstr => x.1) (by
      have := R_holds hR
      simpa using this)
    have hln : lw.length = n := by rw [hnl, List.length_map]
    have hc2 := Any.slices_SortFunc Try.sortStr (fun x : Wstr => Value.string x.1) (fun _ => rfl) (ordE r) (ordE_swo r) 31 #[.pointer (some ⟨box, 0, none⟩)] g 0 cap lw.toArray w eg hcmp hH hgl (by simp; omega)
    rw [show lw.toArray.size = n by simpa using hln] at hc2
    refine Calls.mono hc2 ?_
    rintro e w' ⟨rfl, d', m, os, ⟨hsz, _, hperm⟩, hsort, rfl⟩
    have hdl : d'.size = n := by rw [hsz]; simpa using hln
    have hp2 : (d'.toList.map (·.1)).Perm ((past r now).map (·.1)) := by
      have h1 : d'.extract 0 n = d' := by rw [← hdl]; simp
      have h2 : lw.toArray.extract 0 n = lw.toArray := by rw [← hln]; simp
      rw [h1, h2] at hperm
      exact (hperm.map _).trans hpl
    have hun : ∀ p ∈ past r now, untilOf r p.1 = p.2.2 := fun p hp' => untilOf_mem hV.row (past_mem.1 hp').1
    have hs2 : d'.toList.map (·.1) = (past r now).map (·.1) := by
      refine hp2.eq_of_pairwise (le := fun a b => ¬ (untilOf r b < untilOf r a ∨ untilOf r b = untilOf r a ∧ bl b a)) (fun a b _ _ h1 h2 => ?_) ?_ ?_
      · rcases Classical.em (a = b) with e | e
        · exact e
        · have e1 : ¬ untilOf r b < untilOf r a := fun h => h1 (.inl h)
          have e2 : ¬ untilOf r a < untilOf r b := fun h => h2 (.inl h)
          rcases bl_tri e with h3 | h3
          · exact absurd (.inr ⟨by omega, h3⟩) h2
          · exact absurd (.inr ⟨by omega, h3⟩) h1
      · rw [List.pairwise_iff_getElem]
        intro i j hi hj hij
        have hi' : i < d'.size := by simpa using hi
        have hj' : j < d'.size := by simpa using hj
        have := hsort i j (Nat.zero_le _) hij (by omega)
        rw [getElem!_pos d' i hi', getElem!_pos d' j hj', ltOf_ordE] at this
        have := of_decide_eq_false this
        simpa using this
      · rw [List.pairwise_map]
        refine (past_sorted r now).imp_of_mem (fun {a b} ha hb' hle => ?_)
        rw [hun a ha, hun b hb']
        unfold leE at hle
        rw [decide_eq_true_iff] at hle
        rintro (h | h)
        · rcases hle with hle | hle <;> omega
        · rcases hle with hle | hle
          · omega
          · exact hle.2 h.2
    rw [swMap (fun x : Wstr => x.1) Value.string, show d'.map (·.1) = ((past r now).map (·.1)).toArray from Array.toList_inj.1 (by rw [← hs2, Array.toList_map])]
    have hr2 := swGrown Value.string (w := w) (g := g) (m := m) (os := os) ((past r now).map (·.1)).toArray
    exact ⟨rfl, R_sortedS hR (by rw [hpl.length_eq]), ⟨hr2.os, hr2.tape, hr2.output, hr2.size, fun k hk hn => hr2.block k hk (fun e => hn ((Option.some.inj e) ▸ hokg))⟩⟩
end Go.Proofs.Ytehkhopkedbngaa
