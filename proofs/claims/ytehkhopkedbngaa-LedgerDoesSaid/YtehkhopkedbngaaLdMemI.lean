/- A ledger in memory (values of type int): New, Len, Get, Until, Put, Drop. -/
import Derived.Test.YtehkhopkedbngaaLdLaw
import Derived.Test.YtehkhopkedbngaaMp2
import Derived.Deep.QuietTactic
import Derived.BigQuiet
import Derived.StillTailTactics
import Derived.Deep.DeepCutAuto
namespace Go.Proofs.Ytehkhopkedbngaa
open Go.RowKit Go.Proofs.YtehkhopkedbngaaW.PrintWords

noncomputable def KLI : KeyKd Try.prog 9 ByteArray := strKey Try.underlying9
theorem under_ldI : Try.prog.underlying 58 = some (.map 9 62) := Try.underlying58
theorem zero_ldI (w : World) : (zeroValue 62).run Try.prog w = .ok (.agg #[.int .i64 0, .int .i64 0]) w := by kernel_rfl
def encLI (p : Int × Int) : Value := .agg #[.int .i64 p.1, .int .i64 p.2]

structure LdIV (w : World) (ok : Nat → Prop) (lb mb : Nat) (room : Int) (r : List (Ent Int)) : Prop where
  hd : w.heap[lb]? = some (.cells #[.int .i64 room, .map (some mb)] 60 (0, 0))
  map : MapAt KLI encLI w mb r
  oklb : ok lb
  okmb : ok mb
  row : Rising r
def LdIAt (w : World) (ok : Nat → Prop) (lb : Nat) (room : Int) (r : List (Ent Int)) : Prop := ∃ mb, LdIV w ok lb mb room r
section
variable {w w' : World} {ok ok' S : Nat → Prop} {lb mb : Nat} {room : Int} {r : List (Ent Int)}
theorem LdIV.move (h : LdIV w ok lb mb room r) (hm : ∀ k, ok k → k < w.heap.size → w'.heap[k]? = w.heap[k]?) : LdIV w' ok lb mb room r :=
  ⟨(hm lb h.oklb (blk_lt h.hd)).trans h.hd, h.map.move (hm mb h.okmb h.map.lt), h.oklb, h.okmb, h.row⟩
theorem LdIAt.move (h : LdIAt w ok lb room r) (hm : ∀ k, ok k → k < w.heap.size → w'.heap[k]? = w.heap[k]?) : LdIAt w' ok lb room r := by
  obtain ⟨mb, h⟩ := h
  exact ⟨mb, h.move hm⟩
theorem LdIAt.mono (h : LdIAt w ok lb room r) (hm : ∀ k, ok k → k < w.heap.size → ok' k) : LdIAt w ok' lb room r := by
  obtain ⟨mb, h1, h2, h3, h4, h5⟩ := h
  exact ⟨mb, h1, h2, hm lb h3 (blk_lt h1), hm mb h4 h2.lt, h5⟩
theorem LdIAt.below (h : LdIAt w ok lb room r) (hb : Below w.heap.size w w') : LdIAt w' ok lb room r := h.move (fun k _ hk => hb.block k hk)
theorem LdIAt.rising (h : LdIAt w ok lb room r) : Rising r := by
  obtain ⟨mb, h⟩ := h
  exact h.row
theorem LdIV.cells (h : LdIV w ok lb mb room r) : w.cell? ⟨lb, 0, none⟩ = some (.int .i64 room) ∧ w.cell? ⟨lb, 1, none⟩ = some (.map (some mb)) ∧ lb < w.heap.size := by
  have t0 := blk_cell h.hd 0
  have t1 := blk_cell h.hd 1
  exact ⟨t0, t1, blk_lt h.hd⟩
end

set_option maxHeartbeats 400000 in
theorem ldINew_any (w : World) (room : Int) : Calls Try.prog 9 #[.int .i64 room] w fun e w' => ∃ lb, e = .returned (.pointer (some ⟨lb, 0, none⟩)) ∧ LdIAt w' (fun k => w.heap.size ≤ k) lb (max room 0) [] ∧ Below w.heap.size w w' := by
  have hmm := @run_makeMap Try.prog
  obtain ⟨rm, hrm⟩ : ∃ rm, rm = max room 0 := ⟨_, rfl⟩
  rw [← hrm]
  have hmx : ∀ ts t W, (Builtin.max_ ts t #[.int .i64 room, .int .i64 0]).run Try.prog W = .ok (.int .i64 rm) W := by
    intro ts t W
    simp [Builtin.max_, Builtin.max2]
    rw [hrm]
    split <;> omega
  clear hrm
  go_enter Try.func9, Try.ntmps9
  go_wp2
  go_ret
  have hB1 : Below w.heap.size w (w.alloc (.map #[] 0)) := below_alloc (Below.refl _ _) _
  refine ⟨w.heap.size + 1, rfl, ⟨w.heap.size, ⟨?_, ?_, ?_, Nat.le_refl _, Rising.nil⟩⟩, below_alloc hB1 _⟩
  · have := heap_alloc_new (w.alloc (.map #[] 0)) (.cells #[.int .i64 rm, .map (some w.heap.size)] 60)
    simpa using this
  · exact (MapAt.made KLI encLI w).below (below_alloc (Below.refl _ _) _)
  · omega

/-- What is known of a key. -/
def ldIGet (r : List (Ent Int)) (k : ByteArray) : (Int × Int) × Bool := match mget r k with | some x => (x, true) | none => ((0, 0), false)
theorem ldILook {w : World} {ok : Nat → Prop} {lb mb : Nat} {room : Int} {r : List (Ent Int)} (h : LdIV w ok lb mb room r) {k : ByteArray} (hk : k.size ≤ maxLen) :
    (Instr.lookup 58 (.map (some mb)) (.string k) true).run Try.prog w = .ok (.tuple #[.agg #[.int .i64 (ldIGet r k).1.1, .int .i64 (ldIGet r k).1.2], .bool (ldIGet r k).2]) w := by
  have hlk := h.map.look under_ldI (zero_ldI w) (a := k) hk
  unfold ldIGet
  cases hm : mget r k with
  | none => rw [hm] at hlk; exact hlk
  | some v => rw [hm] at hlk; exact hlk

set_option maxHeartbeats 400000 in
theorem ldIGet_any (w : World) (ok : Nat → Prop) (lb : Nat) (room : Int) (r : List (Ent Int)) (k : ByteArray) (h : LdIAt w ok lb room r) (hk : k.size ≤ maxLen) :
    Calls Try.prog 10 #[.pointer (some ⟨lb, 0, none⟩), .string k] w fun e w' => e = .returned (.tuple #[.int .i64 (ldIGet r k).1.1, .bool (ldIGet r k).2]) ∧ Below w.heap.size w w' := by
  obtain ⟨mb, hV⟩ := h
  have hlk := ldILook hV hk
  obtain ⟨t0, t1, hlt⟩ := hV.cells
  generalize ldIGet r k = p at *
  obtain ⟨⟨p1, p2⟩, p3⟩ := p
  clear hV
  go_enter Try.func10, Try.ntmps10
  go_wp2_with fail
  refine bodyPost_ret (v := .tuple #[.int .i64 p1, .bool p3]) (by simp [results, Try.results10, go_sem]) rfl ?_
  exact ⟨rfl, below_alloc (Below.refl _ _) _⟩

set_option maxHeartbeats 400000 in
theorem ldIUntil_any (w : World) (ok : Nat → Prop) (lb : Nat) (room : Int) (r : List (Ent Int)) (k : ByteArray) (h : LdIAt w ok lb room r) (hk : k.size ≤ maxLen) :
    Calls Try.prog 18 #[.pointer (some ⟨lb, 0, none⟩), .string k] w fun e w' => e = .returned (.tuple #[.int .i64 (ldIGet r k).1.2, .bool (ldIGet r k).2]) ∧ Below w.heap.size w w' := by
  obtain ⟨mb, hV⟩ := h
  have hlk := ldILook hV hk
  obtain ⟨t0, t1, hlt⟩ := hV.cells
  generalize ldIGet r k = p at *
  obtain ⟨⟨p1, p2⟩, p3⟩ := p
  clear hV
  go_enter Try.func18, Try.ntmps18
  go_wp2_with fail
  refine bodyPost_ret (v := .tuple #[.int .i64 p2, .bool p3]) (by simp [results, Try.results18, go_sem]) rfl ?_
  exact ⟨rfl, below_alloc (Below.refl _ _) _⟩

theorem ldI_has (r : List (Ent Int)) (k : ByteArray) : (ldIGet r k).2 = hasKey r k := by
  rw [has_get]
  unfold ldIGet
  cases mget r k <;> rfl
set_option maxHeartbeats 800000 in
set_option maxRecDepth 100000 in
theorem ldIPut_any (w : World) (ok : Nat → Prop) (lb : Nat) (room : Int) (r : List (Ent Int)) (k : ByteArray) (v : Int) (u : Int) (h : LdIAt w ok lb room r) (hk : k.size ≤ maxLen) (hr : r.length ≤ 1000000) :
    Calls Try.prog 12 #[.pointer (some ⟨lb, 0, none⟩), .string k, .int .i64 v, .int .i64 u] w fun e w' => e = .returned (.int .i64 (if mayPut room r k then 0 else 5)) ∧ LdIAt w' ok lb room (if mayPut room r k then ldPut r k (v, u) else r) ∧ Keep ok w w' := by
  obtain ⟨mb, hV⟩ := h
  have hlk := ldILook hV hk
  have hh := ldI_has r k
  obtain ⟨t0, t1, hlt⟩ := hV.cells
  obtain ⟨W1, hW1⟩ : ∃ W1, W1 = w.alloc (.cells #[.int .i64 (ldIGet r k).1.1, .int .i64 (ldIGet r k).1.2] 62) := ⟨_, rfl⟩
  have hB1 : Below w.heap.size w W1 := by rw [hW1]; exact below_alloc (Below.refl _ _) _
  have HV1 := Lib.hid (hV.move (fun k _ hk => hB1.block k hk))
  have HB1 := Lib.hid hB1
  generalize ldIGet r k = p at *
  obtain ⟨⟨p1, p2⟩, p3⟩ := p
  have hlen : ∀ n, (Builtin.len_ #[58] 3 #[.map (some mb)]).run Try.prog (W1.drewN n) = .ok (.int .i64 r.length) (W1.drewN n) := fun n => MapAt.len (show MapAt KLI encLI (W1.drewN n) mb r from HV1.out.map) under_ldI 3
  have hput : ∀ W : World, (∀ k, k < W1.heap.size → W.heap[k]? = W1.heap[k]?) → MapAt KLI encLI W mb r := fun W hW => HV1.out.map.move (hW mb HV1.out.map.lt)
  have HPT := Lib.hid hput
  have hmx : r.length < maxLen := by simp [maxLen]; omega
  have hpost : ∀ (W w' : World), W.os = W1.os → W.tape = W1.tape → W.output = W1.output → W.heap = W1.heap → MapAt KLI encLI w' mb (mput r k (v, u)) → ButB W w' mb → LdIAt w' ok lb room (ldPut r k (v, u)) ∧ Keep ok w w' := by
    intro W w' e1 e2 e3 e4 hM hB
    have hB' : ButB W1 w' mb := ⟨hB.1.trans e1, hB.2.1.trans e2, hB.2.2.1.trans e3, by rw [hB.2.2.2.1, e4], fun i hi => by rw [hB.2.2.2.2 i hi, e4]⟩
    refine ⟨⟨mb, hB'.blk HV1.out.hd (Ne.symm (HV1.out.map.ne_cells HV1.out.hd)), hM.perm (put_perm r k (v, u)), HV1.out.oklb, HV1.out.okmb, HV1.out.row.put k (v, u)⟩, ?_⟩
    exact (Keep.of_below HB1.out ok).trans (hB'.keep (S := fun k => ok k ∨ w.heap.size ≤ k) (.inl HV1.out.okmb))
  have HPO := Lib.hid hpost
  have hfull : LdIAt W1 ok lb room r ∧ Keep ok w W1 := ⟨⟨mb, HV1.out⟩, Keep.of_below HB1.out ok⟩
  have HF := Lib.hid hfull
  have HW1 := Lib.hid hW1
  clear hV hput hpost hfull hB1
  have hp3 : p3 = hasKey r k := hh
  clear hh
  by_cases hknown : hasKey r k = true
  · rw [hknown] at hp3
    subst hp3
    have hmay : mayPut room r k = true := by unfold mayPut; rw [hknown]; rfl
    rw [if_pos hmay, if_pos hmay]
    clear hW1 hlen hmay
    go_enter Try.func12, Try.ntmps12
    go_wp2_with fail
    rw [← HW1.out]
    have s1 := blk_cell HV1.out.hd 1
    simp only [List.getElem?_toArray, List.getElem?_cons_succ, List.getElem?_cons_zero] at s1
    have hlt1 := blk_lt HV1.out.hd
    go_quiet (fail)
    go_wp2_with (refine wpList_put_at (K := KLI) (enc := encLI) (HPT.out (W1.drewN nq) (fun _ _ => rfl)) (by rfl) (.tmp 37) (.tmp 38) (.tmp 41) 58 62 rfl under_ldI hmx rfl k (v, u) rfl rfl hk ?_; intro w6 hM6 hB6)
    have HR := Lib.hid (HPO.out _ _ rfl rfl rfl rfl hM6 hB6)
    clear hM6 hB6
    go_wp2_with fail
    go_ret
    exact ⟨rfl, HR.out⟩
  · have hk0 : hasKey r k = false := by simpa using hknown
    rw [hk0] at hp3
    subst hp3
    clear hknown
    by_cases hroom : (r.length : Int) < room
    · have hmay : mayPut room r k = true := by unfold mayPut; rw [hk0]; simpa using hroom
      rw [if_pos hmay, if_pos hmay]
      have hge : ¬ (room ≤ (r.length : Int)) := by omega
      clear hW1 hmay
      go_enter Try.func12, Try.ntmps12
      go_wp2_with fail
      rw [← HW1.out]
      have s0 := blk_cell HV1.out.hd 0
      have s1 := blk_cell HV1.out.hd 1
      simp only [List.getElem?_toArray, List.getElem?_cons_succ, List.getElem?_cons_zero] at s0 s1
      have hlt1 := blk_lt HV1.out.hd
      go_quiet (fail)
      go_wp2_with (refine wpList_put_at (K := KLI) (enc := encLI) (HPT.out (W1.drewN nq) (fun _ _ => rfl)) (by rfl) (.tmp 37) (.tmp 38) (.tmp 41) 58 62 rfl under_ldI hmx rfl k (v, u) rfl rfl hk ?_; intro w6 hM6 hB6)
      have HR := Lib.hid (HPO.out _ _ rfl rfl rfl rfl hM6 hB6)
      clear hM6 hB6
      go_wp2_with fail
      go_ret
      exact ⟨rfl, HR.out⟩
    · have hmay : ¬ mayPut room r k = true := by unfold mayPut; rw [hk0]; simpa using hroom
      rw [if_neg hmay, if_neg hmay]
      have hge : room ≤ (r.length : Int) := by omega
      clear hW1 hmay
      go_enter Try.func12, Try.ntmps12
      go_wp2_with fail
      rw [← HW1.out]
      have s0 := blk_cell HV1.out.hd 0
      have s1 := blk_cell HV1.out.hd 1
      simp only [List.getElem?_toArray, List.getElem?_cons_succ, List.getElem?_cons_zero] at s0 s1
      have hlt1 := blk_lt HV1.out.hd
      go_quiet (fail)
      go_wp2_with fail
      go_ret
      exact ⟨rfl, HF.out.1.move (fun _ _ _ => rfl), ⟨HF.out.2.os, HF.out.2.tape, HF.out.2.output, HF.out.2.size, HF.out.2.block⟩⟩

set_option maxHeartbeats 800000 in
theorem ldIDrop_any (w : World) (ok : Nat → Prop) (lb : Nat) (room : Int) (r : List (Ent Int)) (k : ByteArray) (h : LdIAt w ok lb room r) (hk : k.size ≤ maxLen) :
    Calls Try.prog 19 #[.pointer (some ⟨lb, 0, none⟩), .string k] w fun e w' => e = .returned (.bool (hasKey r k)) ∧ LdIAt w' ok lb room (mdel r k) ∧ Keep ok w w' := by
  obtain ⟨mb, hV⟩ := h
  have hlk := ldILook hV hk
  have hh := ldI_has r k
  obtain ⟨t0, t1, hlt⟩ := hV.cells
  obtain ⟨W1, hW1⟩ : ∃ W1, W1 = w.alloc (.cells #[.int .i64 (ldIGet r k).1.1, .int .i64 (ldIGet r k).1.2] 62) := ⟨_, rfl⟩
  have hB1 : Below w.heap.size w W1 := by rw [hW1]; exact below_alloc (Below.refl _ _) _
  have HV1 := Lib.hid (hV.move (fun k _ hk => hB1.block k hk))
  have HB1 := Lib.hid hB1
  generalize ldIGet r k = p at *
  obtain ⟨⟨p1, p2⟩, p3⟩ := p
  have HW1 := Lib.hid hW1
  have HH := Lib.hid (show p3 = hasKey r k from hh)
  clear hV hB1 hW1 hh
  go_enter Try.func19, Try.ntmps19
  go_wp2_with (refine wpList_del_at (K := KLI) (enc := encLI) (by rw [← HW1.out]; exact HV1.out.map) (by rfl) (.tmp 19) (.tmp 20) 58 62 rfl under_ldI rfl k rfl hk ?_; intro w6 hM6 hB6)
  rw [← HW1.out] at hB6
  have HM6 := Lib.hid hM6
  have HB6 := Lib.hid hB6
  clear hM6 hB6
  go_wp2_with fail
  go_ret
  refine ⟨by rw [← HH.out]; rfl, ⟨mb, HB6.out.blk HV1.out.hd (Ne.symm (HV1.out.map.ne_cells HV1.out.hd)), HM6.out, HV1.out.oklb, HV1.out.okmb, HV1.out.row.filter _⟩, ?_⟩
  exact (Keep.of_below HB1.out ok).trans (HB6.out.keep (S := fun k => ok k ∨ w.heap.size ≤ k) (.inl HV1.out.okmb))
end Go.Proofs.Ytehkhopkedbngaa
