/- A ledger in memory (values of type string): New, Len, Get, Until, Put, Drop. -/
import Derived.Test.YtehkhopkedbngaaLdLaw
import Derived.Test.YtehkhopkedbngaaMp2
import Derived.Deep.QuietTactic
import Derived.BigQuiet
import Derived.StillTailTactics
import Derived.Deep.DeepCutAuto
namespace Go.Proofs.Ytehkhopkedbngaa
open Go.RowKit Go.Proofs.YtehkhopkedbngaaW.PrintWords

noncomputable def KLS : KeyKd Try.prog 9 ByteArray := strKey Try.underlying9
theorem under_ldS : Try.prog.underlying 64 = some (.map 9 68) := Try.underlying64
theorem zero_ldS (w : World) : (zeroValue 68).run Try.prog w = .ok (.agg #[.string ByteArray.empty, .int .i64 0]) w := by kernel_rfl
def encLS (p : ByteArray × Int) : Value := .agg #[.string p.1, .int .i64 p.2]

structure LdSV (w : World) (ok : Nat → Prop) (lb mb : Nat) (room : Int) (r : List (Ent ByteArray)) : Prop where
  hd : w.heap[lb]? = some (.cells #[.int .i64 room, .map (some mb)] 66 (0, 0))
  map : MapAt KLS encLS w mb r
  oklb : ok lb
  okmb : ok mb
  row : Rising r
def LdSAt (w : World) (ok : Nat → Prop) (lb : Nat) (room : Int) (r : List (Ent ByteArray)) : Prop := ∃ mb, LdSV w ok lb mb room r
section
variable {w w' : World} {ok ok' S : Nat → Prop} {lb mb : Nat} {room : Int} {r : List (Ent ByteArray)}
theorem LdSV.move (h : LdSV w ok lb mb room r) (hm : ∀ k, ok k → k < w.heap.size → w'.heap[k]? = w.heap[k]?) : LdSV w' ok lb mb room r :=
  ⟨(hm lb h.oklb (blk_lt h.hd)).trans h.hd, h.map.move (hm mb h.okmb h.map.lt), h.oklb, h.okmb, h.row⟩
theorem LdSAt.move (h : LdSAt w ok lb room r) (hm : ∀ k, ok k → k < w.heap.size → w'.heap[k]? = w.heap[k]?) : LdSAt w' ok lb room r := by
  obtain ⟨mb, h⟩ := h
  exact ⟨mb, h.move hm⟩
theorem LdSAt.mono (h : LdSAt w ok lb room r) (hm : ∀ k, ok k → k < w.heap.size → ok' k) : LdSAt w ok' lb room r := by
  obtain ⟨mb, h1, h2, h3, h4, h5⟩ := h
  exact ⟨mb, h1, h2, hm lb h3 (blk_lt h1), hm mb h4 h2.lt, h5⟩
theorem LdSAt.below (h : LdSAt w ok lb room r) (hb : Below w.heap.size w w') : LdSAt w' ok lb room r := h.move (fun k _ hk => hb.block k hk)
theorem LdSAt.rising (h : LdSAt w ok lb room r) : Rising r := by
  obtain ⟨mb, h⟩ := h
  exact h.row
theorem LdSV.cells (h : LdSV w ok lb mb room r) : w.cell? ⟨lb, 0, none⟩ = some (.int .i64 room) ∧ w.cell? ⟨lb, 1, none⟩ = some (.map (some mb)) ∧ lb < w.heap.size := by
  have t0 := blk_cell h.hd 0
  have t1 := blk_cell h.hd 1
  exact ⟨t0, t1, blk_lt h.hd⟩
end

set_option maxHeartbeats 400000 in
theorem ldSNew_any (w : World) (room : Int) : Calls Try.prog 13 #[.int .i64 room] w fun e w' => ∃ lb, e = .returned (.pointer (some ⟨lb, 0, none⟩)) ∧ LdSAt w' (fun k => w.heap.size ≤ k) lb (max room 0) [] ∧ Below w.heap.size w w' := by
  have hmm := @run_makeMap Try.prog
  obtain ⟨rm, hrm⟩ : ∃ rm, rm = max room 0 := ⟨_, rfl⟩
  rw [← hrm]
  have hmx : ∀ ts t W, (Builtin.max_ ts t #[.int .i64 room, .int .i64 0]).run Try.prog W = .ok (.int .i64 rm) W := by
    intro ts t W
    simp [Builtin.max_, Builtin.max2]
    rw [hrm]
    split <;> omega
  clear hrm
  go_enter Try.func13, Try.ntmps13
  go_wp2
  go_ret
  have hB1 : Below w.heap.size w (w.alloc (.map #[] 0)) := below_alloc (Below.refl _ _) _
  refine ⟨w.heap.size + 1, rfl, ⟨w.heap.size, ⟨?_, ?_, ?_, Nat.le_refl _, Rising.nil⟩⟩, below_alloc hB1 _⟩
  · have := heap_alloc_new (w.alloc (.map #[] 0)) (.cells #[.int .i64 rm, .map (some w.heap.size)] 66)
    simpa using this
  · exact (MapAt.made KLS encLS w).below (below_alloc (Below.refl _ _) _)
  · omega

/-- What is known of a key. -/
def ldSGet (r : List (Ent ByteArray)) (k : ByteArray) : (ByteArray × Int) × Bool := match mget r k with | some x => (x, true) | none => ((ByteArray.empty, 0), false)
theorem ldSLook {w : World} {ok : Nat → Prop} {lb mb : Nat} {room : Int} {r : List (Ent ByteArray)} (h : LdSV w ok lb mb room r) {k : ByteArray} (hk : k.size ≤ maxLen) :
    (Instr.lookup 64 (.map (some mb)) (.string k) true).run Try.prog w = .ok (.tuple #[.agg #[.string (ldSGet r k).1.1, .int .i64 (ldSGet r k).1.2], .bool (ldSGet r k).2]) w := by
  have hlk := h.map.look under_ldS (zero_ldS w) (a := k) hk
  unfold ldSGet
  cases hm : mget r k with
  | none => rw [hm] at hlk; exact hlk
  | some v => rw [hm] at hlk; exact hlk

set_option maxHeartbeats 400000 in
theorem ldSGet_any (w : World) (ok : Nat → Prop) (lb : Nat) (room : Int) (r : List (Ent ByteArray)) (k : ByteArray) (h : LdSAt w ok lb room r) (hk : k.size ≤ maxLen) :
    Calls Try.prog 16 #[.pointer (some ⟨lb, 0, none⟩), .string k] w fun e w' => e = .returned (.tuple #[.string (ldSGet r k).1.1, .bool (ldSGet r k).2]) ∧ Below w.heap.size w w' := by
  obtain ⟨mb, hV⟩ := h
  have hlk := ldSLook hV hk
  obtain ⟨t0, t1, hlt⟩ := hV.cells
  generalize ldSGet r k = p at *
  obtain ⟨⟨p1, p2⟩, p3⟩ := p
  clear hV
  go_enter Try.func16, Try.ntmps16
  go_wp2_with fail
  refine bodyPost_ret (v := .tuple #[.string p1, .bool p3]) (by simp [results, Try.results16, go_sem]) rfl ?_
  exact ⟨rfl, below_alloc (Below.refl _ _) _⟩

set_option maxHeartbeats 400000 in
theorem ldSUntil_any (w : World) (ok : Nat → Prop) (lb : Nat) (room : Int) (r : List (Ent ByteArray)) (k : ByteArray) (h : LdSAt w ok lb room r) (hk : k.size ≤ maxLen) :
    Calls Try.prog 17 #[.pointer (some ⟨lb, 0, none⟩), .string k] w fun e w' => e = .returned (.tuple #[.int .i64 (ldSGet r k).1.2, .bool (ldSGet r k).2]) ∧ Below w.heap.size w w' := by
  obtain ⟨mb, hV⟩ := h
  have hlk := ldSLook hV hk
  obtain ⟨t0, t1, hlt⟩ := hV.cells
  generalize ldSGet r k = p at *
  obtain ⟨⟨p1, p2⟩, p3⟩ := p
  clear hV
  go_enter Try.func17, Try.ntmps17
  go_wp2_with fail
  refine bodyPost_ret (v := .tuple #[.int .i64 p2, .bool p3]) (by simp [results, Try.results17, go_sem]) rfl ?_
  exact ⟨rfl, below_alloc (Below.refl _ _) _⟩

theorem ldS_has (r : List (Ent ByteArray)) (k : ByteArray) : (ldSGet r k).2 = hasKey r k := by
  rw [has_get]
  unfold ldSGet
  cases mget r k <;> rfl
set_option maxHeartbeats 800000 in
set_option maxRecDepth 100000 in
theorem ldSPut_any (w : World) (ok : Nat → Prop) (lb : Nat) (room : Int) (r : List (Ent ByteArray)) (k : ByteArray) (v : ByteArray) (u : Int) (h : LdSAt w ok lb room r) (hk : k.size ≤ maxLen) (hr : r.length ≤ 1000000) :
    Calls Try.prog 15 #[.pointer (some ⟨lb, 0, none⟩), .string k, .string v, .int .i64 u] w fun e w' => e = .returned (.int .i64 (if mayPut room r k then 0 else 5)) ∧ LdSAt w' ok lb room (if mayPut room r k then ldPut r k (v, u) else r) ∧ Keep ok w w' := by
  obtain ⟨mb, hV⟩ := h
  have hlk := ldSLook hV hk
  have hh := ldS_has r k
  obtain ⟨t0, t1, hlt⟩ := hV.cells
  obtain ⟨W1, hW1⟩ : ∃ W1, W1 = w.alloc (.cells #[.string (ldSGet r k).1.1, .int .i64 (ldSGet r k).1.2] 68) := ⟨_, rfl⟩
  have hB1 : Below w.heap.size w W1 := by rw [hW1]; exact below_alloc (Below.refl _ _) _
  have HV1 := Lib.hid (hV.move (fun k _ hk => hB1.block k hk))
  have HB1 := Lib.hid hB1
  generalize ldSGet r k = p at *
  obtain ⟨⟨p1, p2⟩, p3⟩ := p
  have hlen : ∀ n, (Builtin.len_ #[64] 3 #[.map (some mb)]).run Try.prog (W1.drewN n) = .ok (.int .i64 r.length) (W1.drewN n) := fun n => MapAt.len (show MapAt KLS encLS (W1.drewN n) mb r from HV1.out.map) under_ldS 3
  have hput : ∀ W : World, (∀ k, k < W1.heap.size → W.heap[k]? = W1.heap[k]?) → MapAt KLS encLS W mb r := fun W hW => HV1.out.map.move (hW mb HV1.out.map.lt)
  have HPT := Lib.hid hput
  have hmx : r.length < maxLen := by simp [maxLen]; omega
  have hpost : ∀ (W w' : World), W.os = W1.os → W.tape = W1.tape → W.output = W1.output → W.heap = W1.heap → MapAt KLS encLS w' mb (mput r k (v, u)) → ButB W w' mb → LdSAt w' ok lb room (ldPut r k (v, u)) ∧ Keep ok w w' := by
    intro W w' e1 e2 e3 e4 hM hB
    have hB' : ButB W1 w' mb := ⟨hB.1.trans e1, hB.2.1.trans e2, hB.2.2.1.trans e3, by rw [hB.2.2.2.1, e4], fun i hi => by rw [hB.2.2.2.2 i hi, e4]⟩
    refine ⟨⟨mb, hB'.blk HV1.out.hd (Ne.symm (HV1.out.map.ne_cells HV1.out.hd)), hM.perm (put_perm r k (v, u)), HV1.out.oklb, HV1.out.okmb, HV1.out.row.put k (v, u)⟩, ?_⟩
    exact (Keep.of_below HB1.out ok).trans (hB'.keep (S := fun k => ok k ∨ w.heap.size ≤ k) (.inl HV1.out.okmb))
  have HPO := Lib.hid hpost
  have hfull : LdSAt W1 ok lb room r ∧ Keep ok w W1 := ⟨⟨mb, HV1.out⟩, Keep.of_below HB1.out ok⟩
  have HF := Lib.hid hfull
  have HW1 := Lib.hid hW1
  clear hV hput hpost hfull hB1
  have hp3 : p3 = hasKey r k := hh
  clear hh
  by_cases hknown : hasKey r k = true
  · rw [hknown] at hp3
    subst hp3
    have hmay : mayPut room r k = true := by unfold mayPut; rw [hknown]; rfl
    rw [if_pos hmay, if_pos hmay]
    clear hW1 hlen hmay
    go_enter Try.func15, Try.ntmps15
    go_wp2_with fail
    rw [← HW1.out]
    have s1 := blk_cell HV1.out.hd 1
    simp only [List.getElem?_toArray, List.getElem?_cons_succ, List.getElem?_cons_zero] at s1
    have hlt1 := blk_lt HV1.out.hd
    go_quiet (fail)
    go_wp2_with (refine wpList_put_at (K := KLS) (enc := encLS) (HPT.out (W1.drewN nq) (fun _ _ => rfl)) (by rfl) (.tmp 37) (.tmp 38) (.tmp 41) 64 68 rfl under_ldS hmx rfl k (v, u) rfl rfl hk ?_; intro w6 hM6 hB6)
    have HR := Lib.hid (HPO.out _ _ rfl rfl rfl rfl hM6 hB6)
    clear hM6 hB6
    go_wp2_with fail
    go_ret
    exact ⟨rfl, HR.out⟩
  · have hk0 : hasKey r k = false := by simpa using hknown
    rw [hk0] at hp3
    subst hp3
    clear hknown
    by_cases hroom : (r.length : Int) < room
    · have hmay : mayPut room r k = true := by unfold mayPut; rw [hk0]; simpa using hroom
      rw [if_pos hmay, if_pos hmay]
      have hge : ¬ (room ≤ (r.length : Int)) := by omega
      clear hW1 hmay
      go_enter Try.func15, Try.ntmps15
      go_wp2_with fail
      rw [← HW1.out]
      have s0 := blk_cell HV1.out.hd 0
      have s1 := blk_cell HV1.out.hd 1
      simp only [List.getElem?_toArray, List.getElem?_cons_succ, List.getElem?_cons_zero] at s0 s1
      have hlt1 := blk_lt HV1.out.hd
      go_quiet (fail)
      go_wp2_with (refine wpList_put_at (K := KLS) (enc := encLS) (HPT.out (W1.drewN nq) (fun _ _ => rfl)) (by rfl) (.tmp 37) (.tmp 38) (.tmp 41) 64 68 rfl under_ldS hmx rfl k (v, u) rfl rfl hk ?_; intro w6 hM6 hB6)
      have HR := Lib.hid (HPO.out _ _ rfl rfl rfl rfl hM6 hB6)
      clear hM6 hB6
      go_wp2_with fail
      go_ret
      exact ⟨rfl, HR.out⟩
    · have hmay : ¬ mayPut room r k = true := by unfold mayPut; rw [hk0]; simpa using hroom
      rw [if_neg hmay, if_neg hmay]
      have hge : room ≤ (r.length : Int) := by omega
      clear hW1 hmay
      go_enter Try.func15, Try.ntmps15
      go_wp2_with fail
      rw [← HW1.out]
      have s0 := blk_cell HV1.out.hd 0
      have s1 := blk_cell HV1.out.hd 1
      simp only [List.getElem?_toArray, List.getElem?_cons_succ, List.getElem?_cons_zero] at s0 s1
      have hlt1 := blk_lt HV1.out.hd
      go_quiet (fail)
      go_wp2_with fail
      go_ret
      exact ⟨rfl, HF.out.1.move (fun _ _ _ => rfl), ⟨HF.out.2.os, HF.out.2.tape, HF.out.2.output, HF.out.2.size, HF.out.2.block⟩⟩

set_option maxHeartbeats 800000 in
theorem ldSDrop_any (w : World) (ok : Nat → Prop) (lb : Nat) (room : Int) (r : List (Ent ByteArray)) (k : ByteArray) (h : LdSAt w ok lb room r) (hk : k.size ≤ maxLen) :
    Calls Try.prog 14 #[.pointer (some ⟨lb, 0, none⟩), .string k] w fun e w' => e = .returned (.bool (hasKey r k)) ∧ LdSAt w' ok lb room (mdel r k) ∧ Keep ok w w' := by
  obtain ⟨mb, hV⟩ := h
  have hlk := ldSLook hV hk
  have hh := ldS_has r k
  obtain ⟨t0, t1, hlt⟩ := hV.cells
  obtain ⟨W1, hW1⟩ : ∃ W1, W1 = w.alloc (.cells #[.string (ldSGet r k).1.1, .int .i64 (ldSGet r k).1.2] 68) := ⟨_, rfl⟩
  have hB1 : Below w.heap.size w W1 := by rw [hW1]; exact below_alloc (Below.refl _ _) _
  have HV1 := Lib.hid (hV.move (fun k _ hk => hB1.block k hk))
  have HB1 := Lib.hid hB1
  generalize ldSGet r k = p at *
  obtain ⟨⟨p1, p2⟩, p3⟩ := p
  have HW1 := Lib.hid hW1
  have HH := Lib.hid (show p3 = hasKey r k from hh)
  clear hV hB1 hW1 hh
  go_enter Try.func14, Try.ntmps14
  go_wp2_with (refine wpList_del_at (K := KLS) (enc := encLS) (by rw [← HW1.out]; exact HV1.out.map) (by rfl) (.tmp 19) (.tmp 20) 64 68 rfl under_ldS rfl k rfl hk ?_; intro w6 hM6 hB6)
  rw [← HW1.out] at hB6
  have HM6 := Lib.hid hM6
  have HB6 := Lib.hid hB6
  clear hM6 hB6
  go_wp2_with fail
  go_ret
  refine ⟨by rw [← HH.out]; rfl, ⟨mb, HB6.out.blk HV1.out.hd (Ne.symm (HV1.out.map.ne_cells HV1.out.hd)), HM6.out, HV1.out.oklb, HV1.out.okmb, HV1.out.row.filter _⟩, ?_⟩
  exact (Keep.of_below HB1.out ok).trans (HB6.out.keep (S := fun k => ok k ∨ w.heap.size ≤ k) (.inl HV1.out.okmb))
end Go.Proofs.Ytehkhopkedbngaa
