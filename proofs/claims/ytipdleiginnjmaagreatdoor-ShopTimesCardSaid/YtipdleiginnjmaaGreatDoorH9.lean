/- Put together: The shop's plain law: what each command comes to. No program in it. · A shop in memory: its block, its maps, its queues, its clients' answers. · shop.failed: an error's answer; errors.As at *api.Errno: Go's own text of it is walked. · shop.failed: an error's answer. · slices.Clone at one element type, by its contract. -/
import Derived.Test.YtipdleiginnjmaaGreatDoorH5
import Derived.Test.YtipdleiginnjmaaGreatDoorH7
import Derived.Test.YtipdleiginnjmaaGreatDoorH8
import Derived.LaidEql
import Derived.Stop.Asserts
import Derived.RowKitTokens
set_option linter.unusedVariables false
set_option linter.unusedSimpArgs false
set_option linter.unusedVariables false
namespace Go.Proofs.YtipdleiginnjmaaGreatDoor
/-- A command. -/
structure Cm where
  client : Int
  req : Int
  kind : Int
  queue : ByteArray
  a : QA
  body : ByteArray
  group : ByteArray
  key : ByteArray
  receipt : ByteArray
  bodies : List ByteArray
  n : Int
  m : Int
/-- A command as it lies in a block; vb: its bodies. -/
def Cm.cells (c : Cm) (vb : Value) : Array Value := #[.int .i64 c.client, .int .i64 c.req, .int .i64 c.kind, .string c.queue, .int .i64 c.a.vis, .int .i64 c.a.ret, .int .i64 c.a.del, .int .i64 c.a.win, .int .i64 c.a.max, .string c.a.dead, .bool c.a.fifo, .string c.body, .string c.group, .string c.key, .string c.receipt, vb, .int .i64 c.n, .int .i64 c.m]
/-- An answer. -/
structure An where
  code : Int
  ids : List Int
  took : List Tk
def An.fail (e : Int) : An := ⟨e, [], []⟩
def An.nums (l : List Int) : An := ⟨0, l, []⟩
def An.told (e : Int) (l : List Int) : An := if e = 0 then .nums l else .fail e
abbrev Nq := ByteArray × Qs
abbrev Dn := Int × (Int × An)
/-- The time, queues, rising by name, and clients. -/
structure Sh where
  now : Int
  l : List Nq
  last : List Dn
def shNew : Sh := ⟨0, [], []⟩
section
variable {α β : Type} [DecidableEq α]
/-- What a key has is another one. -/
def mupd (l : List (α × β)) (k : α) (x : β) : List (α × β) := l.map (fun p => if p.1 = k then (p.1, x) else p)
/-- In its place, or behind all. -/
def lput (l : List (α × β)) (k : α) (x : β) : List (α × β) := if (mget l k).isSome then mupd l k x else l ++ [(k, x)]
theorem mupd_keys (l : List (α × β)) (k : α) (x : β) : (mupd l k x).map (·.1) = l.map (·.1) := by
  unfold mupd
  rw [List.map_map]
  apply List.map_congr_left
  intro p _
  dsimp
  split <;> rfl
theorem mupd_len (l : List (α × β)) (k : α) (x : β) : (mupd l k x).length = l.length := by unfold mupd; rw [List.length_map]
theorem mupd_get (l : List (α × β)) (k : α) (x : β) (k' : α) : mget (mupd l k x) k' = if k' = k then (mget l k).map (fun _ => x) else mget l k' := by
  induction l with
  | nil => simp [mupd, mget_nil]
  | cons p l ih =>
    have e : mupd (p :: l) k x = (if p.1 = k then (p.1, x) else p) :: mupd l k x := rfl
    rw [e, mget_cons, mget_cons, mget_cons, ih]
    by_cases h1 : p.1 = k
    · subst h1
      by_cases h2 : k' = p.1
      · subst h2; simp
      · have h3 : p.1 ≠ k' := fun h => h2 h.symm
        simp [h2, h3]
    · by_cases h2 : k' = k
      · subst h2; simp [h1]
      · simp [h1, h2]
theorem mupd_none {l : List (α × β)} {k : α} (x : β) (h : mget l k = none) : mupd l k x = l := by
  unfold mupd
  have h := mget_none.1 h
  conv => rhs; rw [← List.map_id l]
  apply List.map_congr_left
  intro p hp
  rw [if_neg (h p hp)]; rfl
theorem mupd_mem {l : List (α × β)} {k : α} {x : β} {p : α × β} (h : p ∈ mupd l k x) : p = (k, x) ∨ p ∈ l := by
  unfold mupd at h
  obtain ⟨q, hq, rfl⟩ := List.mem_map.1 h
  by_cases e : q.1 = k
  · rw [if_pos e, e]; exact .inl rfl
  · rw [if_neg e]; exact .inr hq
end
section
variable {β : Type}
def Ris (l : List (ByteArray × β)) : Prop := l.Pairwise (fun a b => bl a.1 b.1)
/-- In its place. -/
def sput (l : List (ByteArray × β)) (k : ByteArray) (x : β) : List (ByteArray × β) := l.filter (fun p => decide (bl p.1 k)) ++ (k, x) :: l.filter (fun p => decide (bl k p.1))
theorem Ris.nil : Ris ([] : List (ByteArray × β)) := List.Pairwise.nil
theorem Ris.keys {l : List (ByteArray × β)} (h : Ris l) : (l.map (·.1)).Nodup := by
  rw [List.nodup_iff_pairwise_ne, List.pairwise_map]
  refine List.Pairwise.imp (fun {a b} hab e => ?_) h
  rw [e] at hab
  exact bl_irrefl _ hab
theorem Ris.filter {l : List (ByteArray × β)} (h : Ris l) (f : ByteArray × β → Bool) : Ris (l.filter f) := List.Pairwise.filter _ h
theorem Ris.of_keys {γ : Type} {l : List (ByteArray × β)} {l' : List (ByteArray × γ)} (h : Ris l) (e : l'.map (·.1) = l.map (·.1)) : Ris l' := by
  have h1 : (l.map (·.1)).Pairwise bl := List.pairwise_map.2 h
  rw [← e] at h1
  exact List.pairwise_map.1 h1
theorem Ris.put {l : List (ByteArray × β)} (h : Ris l) (k : ByteArray) (x : β) : Ris (sput l k x) := by
  unfold sput Ris
  rw [List.pairwise_append]
  refine ⟨h.filter _, ?_, fun a ha b hb => ?_⟩
  · rw [List.pairwise_cons]
    exact ⟨fun b hb => by simpa using (List.mem_filter.1 hb).2, h.filter _⟩
  · have h1 : bl a.1 k := by simpa using (List.mem_filter.1 ha).2
    rcases List.mem_cons.1 hb with rfl | hb
    · exact h1
    · have h2 : bl k b.1 := by simpa using (List.mem_filter.1 hb).2
      exact bl_trans h1 h2
theorem sput_perm {l : List (ByteArray × β)} {k : ByteArray} (x : β) (h : mget l k = none) : ((k, x) :: l).Perm (sput l k x) := by
  unfold sput
  refine List.Perm.trans ?_ (List.perm_middle).symm
  refine List.Perm.cons _ ?_
  have hne := mget_none.1 h
  have e : l.filter (fun p => decide (bl k p.1)) = l.filter (fun p => !decide (bl p.1 k)) := by
    apply List.filter_congr
    intro p hp
    rcases bl_tri (hne p hp) with h | h
    · simp [h, bl_asymm h]
    · simp [h, bl_asymm h]
  rw [e]
  exact (List.filter_append_perm (fun p : ByteArray × β => decide (bl p.1 k)) l).symm
theorem sput_len {l : List (ByteArray × β)} {k : ByteArray} (x : β) (h : mget l k = none) : (sput l k x).length = l.length + 1 := by rw [← (sput_perm x h).length_eq]; rfl
theorem sput_get {l : List (ByteArray × β)} (hr : Ris l) {k : ByteArray} (x : β) (h : mget l k = none) (k' : ByteArray) : mget (sput l k x) k' = if k' = k then some x else mget l k' := by
  rw [mget_perm (ps := (k, x) :: l) ?_ (sput_perm x h), mget_cons]
  · by_cases e : k' = k
    · subst e; simp
    · have e2 : k ≠ k' := fun h => e h.symm
      simp [e, e2]
  · rw [List.map_cons, List.nodup_cons]
    exact ⟨fun hm => by obtain ⟨p, hp, e⟩ := List.mem_map.1 hm; exact mget_none.1 h p hp e, hr.keys⟩
end
/-- A letter that comes to a queue; whether it is there. -/
def letGroup (σ : Qs) (x : Lt) : ByteArray := if σ.a.fifo then (if x.2.2.2.size = 0 then ⟨#[100, 101, 97, 100]⟩ else x.2.2.2) else ⟨#[]⟩
def qLetter (σ : Qs) (x : Lt) : Qs × (Int × Int) := qSend σ x.2.2.1 (letGroup σ x) ⟨#[]⟩ (-1)
abbrev Mv := ByteArray × Lt
def shMove (l : List Nq) (v : Mv) : List Nq := match mget l v.1 with
  | none => l
  | some σ => mupd l v.1 (qLetter σ v.2).1
def shGoes (l : List Nq) (v : Mv) : Bool := match mget l v.1 with
  | none => false
  | some σ => (qLetter σ v.2).2.2 == 0
/-- So many of these are there. -/
def shMoves (l : List Nq) : List Mv → List Nq × Int
  | [] => (l, 0)
  | v :: vs => ((shMoves (shMove l v) vs).1, (if shGoes l v then 1 else 0) + (shMoves (shMove l v) vs).2)
def tkAll (l : List Nq) (n : Int) : List Nq := l.map (fun p => (p.1, (qTck p.2 n).1))
def tkMoves (l : List Nq) (n : Int) : List Mv := l.flatMap (fun p => (qTck p.2 n).2.1.map (fun x => (p.2.a.dead, x)))
def tkPast (l : List Nq) (n : Int) : Int := (l.map (fun p => ((qTck p.2 n).2.2.length : Int))).sum
def shMayTick (S : Sh) (n : Int) : Bool := !(decide (n < S.now) || decide (1099511627776 < n))
def shTick (S : Sh) (n : Int) : Sh × An :=
  if shMayTick S n then
    ({ S with now := n, l := (shMoves (tkAll S.l n) (tkMoves S.l n)).1 },
      .nums [(shMoves (tkAll S.l n) (tkMoves S.l n)).2, ((tkMoves S.l n).length : Int) - (shMoves (tkAll S.l n) (tkMoves S.l n)).2, tkPast S.l n])
  else (S, .fail 1)
def shMayCreate (c : Cm) : Bool := qRight c.a && (decide (1 ≤ c.queue.size) && decide (c.queue.size ≤ 64))
def shCreate (S : Sh) (c : Cm) : Sh × An :=
  if shMayCreate c = false then (S, .fail 1)
  else if (mget S.l c.queue).isSome then (S, .fail 7)
  else if 16 ≤ S.l.length then (S, .fail 5)
  else ({ S with l := sput S.l c.queue (qTck (qNew c.a) S.now).1 }, ⟨0, [], []⟩)
def qBatch (σ : Qs) (group : ByteArray) (n : Int) : List ByteArray → List Int → Qs × An
  | [], acc => (σ, ⟨0, acc, []⟩)
  | b :: bs, acc => if (qSend σ b group ⟨#[]⟩ n).2.2 = 0 then qBatch (qSend σ b group ⟨#[]⟩ n).1 group n bs (acc ++ [(qSend σ b group ⟨#[]⟩ n).2.1]) else ((qSend σ b group ⟨#[]⟩ n).1, ⟨(qSend σ b group ⟨#[]⟩ n).2.2, acc, []⟩)
def shBatch (σ : Qs) (c : Cm) : Qs × An := if c.bodies.length < 1 ∨ 10 < c.bodies.length then (σ, .fail 1) else qBatch σ c.group c.n c.bodies []
def shRecv (σ : Qs) (c : Cm) : Qs × An := ((qRcv σ c.n c.m).1, if (qRcv σ c.n c.m).2.2 = 0 then ⟨0, [], (qRcv σ c.n c.m).2.1⟩ else .fail (qRcv σ c.n c.m).2.2)
/-- A command of a queue that stays. -/
def shOf (σ : Qs) (c : Cm) : Qs × An :=
  if c.kind = 4 then (qPurge σ, .nums [(σ.l.length : Int)])
  else if c.kind = 3 then (qSet σ c.a, .told (qSetE σ c.a) [])
  else if c.kind = 5 then ((qSend σ c.body c.group c.key c.n).1, .told (qSend σ c.body c.group c.key c.n).2.2 [(qSend σ c.body c.group c.key c.n).2.1])
  else if c.kind = 6 then shBatch σ c
  else if c.kind = 7 then shRecv σ c
  else if c.kind = 8 then ((qAck σ c.receipt).1, .told (qAck σ c.receipt).2.2 [(qAck σ c.receipt).2.1])
  else ((qExt σ c.receipt c.n).1, .told (qExt σ c.receipt c.n).2 [])
def shHappen (S : Sh) (c : Cm) : Sh × An :=
  if c.kind < 0 ∨ 9 < c.kind then (S, .fail 1)
  else if c.kind = 0 then shTick S c.n
  else if c.kind = 1 then shCreate S c
  else match mget S.l c.queue with
    | none => (S, .fail 6)
    | some σ => if c.kind = 2 then ({ S with l := mdel S.l c.queue }, .nums [(σ.l.length : Int)]) else ({ S with l := mupd S.l c.queue (shOf σ c).1 }, (shOf σ c).2)
def shKeep (r : Sh × An) (c : Cm) : Sh × An := ({ r.1 with last := lput r.1.last c.client (c.req, r.2) }, r.2)
def shApply (S : Sh) (c : Cm) : Sh × An :=
  if c.client < 0 then (S, .fail 1)
  else if c.client = 0 then shHappen S c
  else match mget S.last c.client with
    | some d => if d.1 = c.req then (S, d.2) else if c.req < d.1 then (S, .fail 11) else shKeep (shHappen S c) c
    | none => if 64 ≤ S.last.length then (S, .fail 5) else shKeep (shHappen S c) c
end Go.Proofs.YtipdleiginnjmaaGreatDoor
set_option linter.unusedVariables false
namespace Go.Proofs.YtipdleiginnjmaaGreatDoor
open Go.RowKit Go.Maps Go.Proofs.YtipdleiginnjmaaGreatDoorW.PrintWords
/-- A map, as an object. -/
def AMg {α β : Type} [DecidableEq α] {k : TypeId} (K : KeyKd Tryz.prog k α) (enc : β → Value) (mb : Nat) (ms : List (α × β)) : Asn where
  pred w S := S mb ∧ MapAt K enc w mb ms
  mono h hm := ⟨hm mb h.1 h.2.lt, h.2⟩
  move h hm := ⟨h.1, h.2.move (hm mb h.1 h.2.lt)⟩
section
variable {w0 w : World} {Ps : List Asn}
theorem Hp.mgUse {α β : Type} [DecidableEq α] {k : TypeId} {K : KeyKd Tryz.prog k α} {enc : β → Value} {mb : Nat} {ms : List (α × β)} (h : Hp w0 w (AMg K enc mb ms :: Ps)) :
    MapAt K enc w mb ms ∧ ∀ (w' : World) (ms' : List (α × β)), MapAt K enc w' mb ms' → ButB w w' mb → Hp w0 w' (AMg K enc mb ms' :: Ps) := by
  obtain ⟨S1, h1, h2⟩ := h.use1
  exact ⟨h1.2, fun w' ms' hM hB => h2 w' (AMg K enc mb ms') (hB.keep h1.1) ⟨.inl h1.1, hM⟩⟩
theorem Hp.mgPerm {α β : Type} [DecidableEq α] {k : TypeId} {K : KeyKd Tryz.prog k α} {enc : β → Value} {mb : Nat} {ms ms' : List (α × β)} (h : Hp w0 w (AMg K enc mb ms :: Ps)) (hp : ms.Perm ms') : Hp w0 w (AMg K enc mb ms' :: Ps) := by
  obtain ⟨S1, h1, h2⟩ := h.use1
  exact h2 w _ (Keep.refl _ _) ⟨.inl h1.1, h1.2.perm hp⟩
theorem Hp.mgOf {α β : Type} [DecidableEq α] {k : TypeId} (K : KeyKd Tryz.prog k α) (enc : β → Value) {g : Nat} (h : Hp w0 w (ABlk g (.map #[] 0) :: Ps)) : Hp w0 w (AMg K enc g [] :: Ps) := by
  obtain ⟨S1, h1, h2⟩ := h.use1
  exact h2 w _ (Keep.refl _ _) ⟨.inl h1.1, (MapAt.made K enc (World.mk #[] w.tape w.drawn w.os w.output)).clone.elim (fun es hc => by
    obtain ⟨clock, e, hW⟩ := hc
    have e2 : ((World.mk #[] w.tape w.drawn w.os w.output).alloc (.map #[] 0)).heap[(World.mk #[] w.tape w.drawn w.os w.output).heap.size]? = some (.map #[] 0) := heap_alloc_new _ _
    rw [e2] at e
    injection e with e
    injection e with e3 e4
    subst e3 e4
    exact hW w g h1.2)⟩
def encB (b : Nat) : Value := .pointer (some ⟨b, 0, none⟩)
/-- A client's last command: its number, its answer, the answer's rows. -/
abbrev Dv := Int × (An × (Value × Value))
def encD (x : Dv) : Value := .agg #[.int .i64 x.1, .int .i64 x.2.1.code, x.2.2.1, x.2.2.2]
abbrev Qp := ByteArray × (Nat × Qs)
abbrev Dp := Int × Dv
def AQs (q : List Qp) (T : Nat) : Asn := AStar (q.map (fun p => AQu p.2.1 p.2.2 T))
def ADe (x : Dv) : Asn := AStar [AInt x.2.2.1 x.2.1.ids, ATk x.2.2.2 x.2.1.took]
def ADs (d : List Dp) : Asn := AStar (d.map (fun p => ADe p.2))
/-- What holds of any shop. -/
structure ShInv (S : Sh) (T : Nat) : Prop where
  now : 0 ≤ S.now ∧ S.now ≤ 1099511627776
  ris : Ris S.l
  len : S.l.length ≤ 16
  names : ∀ p ∈ S.l, 1 ≤ p.1.size ∧ p.1.size ≤ 64
  inv : ∀ p ∈ S.l, QInv p.2 T
  time : ∀ p ∈ S.l, p.2.now = S.now
  lnd : (S.last.map (·.1)).Nodup
  llen : S.last.length ≤ 64
  lwf : ∀ p ∈ S.last, (Lit.int .i64 p.1).wf = true
  lans : ∀ p ∈ S.last, p.2.2.ids.length ≤ 10 ∧ p.2.2.took.length ≤ 10
theorem ShInv.mono {S : Sh} {T T' : Nat} (h : ShInv S T) (hT : T ≤ T') : ShInv S T' := { h with inv := fun p hp => (h.inv p hp).mono hT }
structure ShP where
  mb : Nat
  lb : Nat
  q : List Qp
  d : List Dp
noncomputable def ShP.row (p : ShP) (sb : Nat) (S : Sh) (T : Nat) : List Asn := [ABlk sb (.cells #[.int .i64 S.now, .map (some p.mb), .map (some p.lb)] 93 (0, 0)), AMg KG encB p.mb (p.q.map (fun x => (x.1, x.2.1))), AQs p.q T, AMg KI encD p.lb p.d, ADs p.d]
def ShFit (S : Sh) (p : ShP) : Prop := p.q.map (fun x => (x.1, x.2.2)) = S.l ∧ p.d.map (fun x => (x.1, (x.2.1, x.2.2.1))) = S.last
/-- A shop (its block sb) that is S. -/
noncomputable def ASh (sb : Nat) (S : Sh) (T : Nat) : Asn := AEx (fun p : ShP => AIf (ShInv S T ∧ ShFit S p) (AStar (p.row sb S T)))
theorem Hp.shOpen {sb T : Nat} {S : Sh} (h : Hp w0 w (ASh sb S T :: Ps)) : ∃ (mb lb : Nat) (q : List Qp) (d : List Dp), ShInv S T ∧ ShFit S ⟨mb, lb, q, d⟩ ∧ Hp w0 w (ABlk sb (.cells #[.int .i64 S.now, .map (some mb), .map (some lb)] 93 (0, 0)) :: AMg KG encB mb (q.map (fun x => (x.1, x.2.1))) :: AQs q T :: AMg KI encD lb d :: ADs d :: Ps) := by
  obtain ⟨p, h⟩ := h.unex
  obtain ⟨⟨h1, h2⟩, h⟩ := h.unif
  exact ⟨p.mb, p.lb, p.q, p.d, h1, h2, h.unstar⟩
theorem Hp.shShut {sb T mb lb : Nat} {S : Sh} {q : List Qp} {d : List Dp} (h : Hp w0 w (ABlk sb (.cells #[.int .i64 S.now, .map (some mb), .map (some lb)] 93 (0, 0)) :: AMg KG encB mb (q.map (fun x => (x.1, x.2.1))) :: AQs q T :: AMg KI encD lb d :: ADs d :: Ps)) (h1 : ShInv S T) (h2 : ShFit S ⟨mb, lb, q, d⟩) : Hp w0 w (ASh sb S T :: Ps) :=
  Hp.ex (⟨mb, lb, q, d⟩ : ShP) (Hp.if_ ⟨h1, h2⟩ (Hp.star (Qs := (⟨mb, lb, q, d⟩ : ShP).row sb S T) h))
theorem Hp.setRowBlkS {g t : Nat} {old : Array Value} (h : Hp w0 w (ABlk g (.cells old t (0, 0)) :: Ps)) (cs : Array Value) : Hp w0 (w.setRow g cs) (ABlk g (.cells cs t (0, 0)) :: Ps) := by
  obtain ⟨S1, h1, h2⟩ := h.use1
  exact h2 _ (ABlk g (.cells cs t (0, 0))) ⟨rfl, rfl, rfl, by simp, fun k hk hn => setRow_other _ _ _ _ (fun e => hn (e ▸ h1.1))⟩ ⟨.inl h1.1, setRow_heap _ _ _ _ _ _ h1.2⟩
/-! one of many -/
theorem Hp.starPick {Q : Asn} {L1 L2 : List Asn} (h : Hp w0 w (AStar (L1 ++ Q :: L2) :: Ps)) : Hp w0 w (Q :: AStar (L1 ++ L2) :: Ps) := by
  have h1 := h.unstar
  have h2 : Hp w0 w ((L1 ++ L2) ++ (Q :: Ps)) := h1.perm (by
    rw [List.append_assoc, List.append_assoc, List.cons_append]
    refine List.Perm.append_left _ ?_
    exact List.perm_middle.symm)
  exact h2.star.swap
theorem Hp.starBack {Q : Asn} {L1 L2 : List Asn} (h : Hp w0 w (Q :: AStar (L1 ++ L2) :: Ps)) : Hp w0 w (AStar (L1 ++ Q :: L2) :: Ps) := by
  have h1 := h.swap.unstar
  refine Hp.star (h1.perm ?_)
  rw [List.append_assoc, List.append_assoc, List.cons_append]
  refine List.Perm.append_left _ ?_
  exact List.perm_middle
theorem Hp.qsPick {l1 l2 : List Qp} {p : Qp} {T : Nat} (h : Hp w0 w (AQs (l1 ++ p :: l2) T :: Ps)) : Hp w0 w (AQu p.2.1 p.2.2 T :: AQs (l1 ++ l2) T :: Ps) := by
  unfold AQs at h ⊢
  rw [List.map_append, List.map_cons] at h
  rw [List.map_append]
  exact h.starPick
theorem Hp.qsBack {l1 l2 : List Qp} {n : ByteArray} {b : Nat} {σ : Qs} {T : Nat} (h : Hp w0 w (AQu b σ T :: AQs (l1 ++ l2) T :: Ps)) : Hp w0 w (AQs (l1 ++ (n, (b, σ)) :: l2) T :: Ps) := by
  unfold AQs at h ⊢
  rw [List.map_append] at h
  rw [List.map_append, List.map_cons]
  exact h.starBack
theorem Hp.qsMono' {T T' : Nat} (ht : T ≤ T') : ∀ (l : List Qp) (Ps : List Asn), Hp w0 w (l.map (fun p => AQu p.2.1 p.2.2 T) ++ Ps) → Hp w0 w (l.map (fun p => AQu p.2.1 p.2.2 T') ++ Ps)
  | [], _, h => h
  | p :: l, Ps, h => by
    have h1 := Hp.quMono (show Hp w0 w (AQu p.2.1 p.2.2 T :: (l.map (fun p => AQu p.2.1 p.2.2 T) ++ Ps)) from h) ht
    have h2 := Hp.qsMono' ht l _ (h1.perm List.perm_middle.symm)
    exact h2.perm List.perm_middle
theorem Hp.qsMono {q : List Qp} {T T' : Nat} (h : Hp w0 w (AQs q T :: Ps)) (ht : T ≤ T') : Hp w0 w (AQs q T' :: Ps) := (Hp.qsMono' ht q _ h.unstar).star
theorem Hp.qsNil (h : Hp w0 w Ps) (T : Nat) : Hp w0 w (AQs [] T :: Ps) := Hp.star (Qs := []) h
theorem Hp.dsNil (h : Hp w0 w Ps) : Hp w0 w (ADs [] :: Ps) := Hp.star (Qs := []) h
theorem Hp.dsPick {l1 l2 : List Dp} {p : Dp} (h : Hp w0 w (ADs (l1 ++ p :: l2) :: Ps)) : Hp w0 w (ADe p.2 :: ADs (l1 ++ l2) :: Ps) := by
  unfold ADs at h ⊢
  rw [List.map_append, List.map_cons] at h
  rw [List.map_append]
  exact h.starPick
theorem Hp.dsBack {l1 l2 : List Dp} {p : Dp} (h : Hp w0 w (ADe p.2 :: ADs (l1 ++ l2) :: Ps)) : Hp w0 w (ADs (l1 ++ p :: l2) :: Ps) := by
  unfold ADs at h ⊢
  rw [List.map_append] at h
  rw [List.map_append, List.map_cons]
  exact h.starBack
theorem Hp.deOpen {x : Dv} (h : Hp w0 w (ADe x :: Ps)) : Hp w0 w (AInt x.2.2.1 x.2.1.ids :: ATk x.2.2.2 x.2.1.took :: Ps) := h.unstar
theorem Hp.deShut {x : Dv} (h : Hp w0 w (AInt x.2.2.1 x.2.1.ids :: ATk x.2.2.2 x.2.1.took :: Ps)) : Hp w0 w (ADe x :: Ps) := Hp.star (Qs := [_, _]) h
end
/-- An answer is returned: its rows are the call's own. -/
def AnsE (e : Ending) (a : An) (w0 w' : World) (Qs : List Asn) : Prop := ∃ A n c B m d, e = .returned (.agg #[.int .i64 a.code, .slice A n c, .slice B m d]) ∧ n = a.ids.length ∧ m = a.took.length ∧ Hp w0 w' (AInt (.slice A n c) a.ids :: ATk (.slice B m d) a.took :: Qs)
theorem Hp.nilRowS {w0 w : World} {Ps : List Asn} {α : Type} (d : Kd α) (e : Nat) (h : Hp w0 w Ps) : Hp w0 w (ARow d e (.slice none 0 0) [] :: Ps) := h.fresh (Below.refl _ _) (Kd.R_nil _ _ _ _ _)
theorem AnsE.bare {w0 w' : World} {Qs : List Asn} (code : Int) (h : Hp w0 w' Qs) : AnsE (.returned (.agg #[.int .i64 code, .slice none 0 0, .slice none 0 0])) ⟨code, [], []⟩ w0 w' Qs := ⟨none, 0, 0, none, 0, 0, rfl, rfl, rfl, (h.nilRowS KTk 45).nilRowS (Kd.int .i64) 3⟩
theorem AnsE.ofIds {w0 w' : World} {Qs : List Asn} {A : Option Addr} {n c : Nat} {l : List Int} (code : Int) (hn : n = l.length) (h : Hp w0 w' (AInt (.slice A n c) l :: Qs)) : AnsE (.returned (.agg #[.int .i64 code, .slice A n c, .slice none 0 0])) ⟨code, l, []⟩ w0 w' Qs := ⟨A, n, c, none, 0, 0, rfl, hn, rfl, (h.nilRowS KTk 45).swap⟩
theorem AnsE.ofTook {w0 w' : World} {Qs : List Asn} {A : Option Addr} {n c : Nat} {l : List Tk} (code : Int) (hn : n = l.length) (h : Hp w0 w' (ATk (.slice A n c) l :: Qs)) : AnsE (.returned (.agg #[.int .i64 code, .slice none 0 0, .slice A n c])) ⟨code, [], l⟩ w0 w' Qs := ⟨none, 0, 0, A, n, c, rfl, rfl, hn, h.nilRowS (Kd.int .i64) 3⟩
/-! the lists -/
section
variable {α β : Type} [DecidableEq α]
theorem mget_split {l : List (α × β)} {k : α} {x : β} (h : mget l k = some x) : ∃ l1 l2, l = l1 ++ (k, x) :: l2 := List.append_of_mem (mget_some h)
theorem mupd_split {l1 l2 : List (α × β)} {k : α} {x y : β} (hn : ((l1 ++ (k, x) :: l2).map (·.1)).Nodup) : mupd (l1 ++ (k, x) :: l2) k y = l1 ++ (k, y) :: l2 := by
  rw [List.map_append, List.map_cons, List.nodup_append] at hn
  obtain ⟨_, h2, h3⟩ := hn
  rw [List.nodup_cons] at h2
  unfold mupd
  rw [List.map_append, List.map_cons, if_pos rfl]
  congr 1
  · conv => rhs; rw [← List.map_id l1]
    apply List.map_congr_left
    intro p hp
    rw [if_neg (h3 p.1 (List.mem_map.2 ⟨p, hp, rfl⟩) k List.mem_cons_self)]
    rfl
  · congr 1
    conv => rhs; rw [← List.map_id l2]
    apply List.map_congr_left
    intro p hp
    rw [if_neg (fun e => h2.1 (List.mem_map.2 ⟨p, hp, e⟩))]
    rfl
theorem mdel_split {l1 l2 : List (α × β)} {k : α} {x : β} (hn : ((l1 ++ (k, x) :: l2).map (·.1)).Nodup) : mdel (l1 ++ (k, x) :: l2) k = l1 ++ l2 := by
  rw [List.map_append, List.map_cons, List.nodup_append] at hn
  obtain ⟨_, h2, h3⟩ := hn
  rw [List.nodup_cons] at h2
  unfold mdel
  rw [List.filter_append, List.filter_cons_of_neg (by simp)]
  congr 1
  · rw [List.filter_eq_self]
    intro p hp
    exact decide_eq_true (h3 p.1 (List.mem_map.2 ⟨p, hp, rfl⟩) k List.mem_cons_self)
  · rw [List.filter_eq_self]
    intro p hp
    exact decide_eq_true (fun e => h2.1 (List.mem_map.2 ⟨p, hp, e⟩))
theorem mget_map {γ : Type} (f : β → γ) (l : List (α × β)) (k : α) : mget (l.map (fun p => (p.1, f p.2))) k = (mget l k).map f := by
  induction l with
  | nil => rfl
  | cons p l ih =>
    rw [List.map_cons, mget_cons, mget_cons, ih]
    split <;> rfl
end
/-- The queue of a name. -/
theorem ShFit.pick {S : Sh} {mb lb : Nat} {q : List Qp} {d : List Dp} (h : ShFit S ⟨mb, lb, q, d⟩) {k : ByteArray} {σ : Qs} (hg : mget S.l k = some σ) :
    ∃ (b : Nat) (l1 l2 : List Qp), q = l1 ++ (k, (b, σ)) :: l2 ∧ mget (q.map (fun x => (x.1, x.2.1))) k = some b := by
  have e : S.l = q.map (fun x => (x.1, x.2.2)) := h.1.symm
  rw [e, mget_map (fun x : Nat × Qs => x.2)] at hg
  obtain ⟨⟨b, σ'⟩, h1, h2⟩ := Option.map_eq_some_iff.1 hg
  obtain rfl : σ' = σ := h2
  obtain ⟨l1, l2, h3⟩ := mget_split h1
  exact ⟨b, l1, l2, h3, by rw [mget_map (fun x : Nat × Qs => x.1), h1]; rfl⟩
theorem ShFit.none {S : Sh} {mb lb : Nat} {q : List Qp} {d : List Dp} (h : ShFit S ⟨mb, lb, q, d⟩) {k : ByteArray} (hg : mget S.l k = none) : mget (q.map (fun x => (x.1, x.2.1))) k = none := by
  have e : S.l = q.map (fun x => (x.1, x.2.2)) := h.1.symm
  rw [e, mget_map (fun x : Nat × Qs => x.2), Option.map_eq_none_iff] at hg
  rw [mget_map (fun x : Nat × Qs => x.1), hg]
  rfl
theorem ShFit.nd {S : Sh} {T : Nat} {mb lb : Nat} {q : List Qp} {d : List Dp} (h : ShFit S ⟨mb, lb, q, d⟩) (hi : ShInv S T) : (q.map (·.1)).Nodup := by
  have h1 := hi.ris.keys
  have e : S.l = q.map (fun x => (x.1, x.2.2)) := h.1.symm
  rw [e, List.map_map] at h1
  exact h1
theorem ShFit.dnd {S : Sh} {T : Nat} {mb lb : Nat} {q : List Qp} {d : List Dp} (h : ShFit S ⟨mb, lb, q, d⟩) (hi : ShInv S T) : (d.map (·.1)).Nodup := by
  have h1 := hi.lnd
  have e : S.last = d.map (fun x => (x.1, (x.2.1, x.2.2.1))) := h.2.symm
  rw [e, List.map_map] at h1
  exact h1
end Go.Proofs.YtipdleiginnjmaaGreatDoor
set_option linter.unusedVariables false
set_option linter.unusedSimpArgs false
namespace Go.Proofs.YtipdleiginnjmaaGreatDoor
open Go.RowKit Go.Extern.Stop Go.Stop Go.Extern Go.Proofs.YtipdleiginnjmaaGreatDoorW.PrintWords
theorem rf_valueT (t : Addr) (w : World) : (ReflectliteValue.unpack (.iface 144 (.pointer (some t)))).run Tryz.prog w
    = .ok (.agg #[.pointer (some ⟨5, 144, none⟩), .pointer (some ⟨w.heap.size, 0, none⟩), .int .u64 150]) (w.alloc (.cells #[.pointer (some t)] 144)) := by kernel_rfl
theorem rf_typeT (a : Addr) (w : World) : (ReflectliteValue.methodAny (ReflectliteValue.valueError "reflectlite.Value.Type" 0) (fun t _ _ _ => ReflectliteType.toType t) #[.agg #[.pointer (some ⟨5, 144, none⟩), .pointer (some a), .int .u64 150]]).run Tryz.prog w
    = .ok (.iface 262 (.agg #[.pointer (some ⟨5, 144, none⟩)])) w := by kernel_rfl
theorem rf_mKind (h : Value) (w : World) : (Go.method 502 262 (.agg #[h]) "Kind").run Tryz.prog w = .ok (291, h) w := by kernel_rfl
theorem rf_kindT (w : World) : ((ReflectliteType.abiMethod fun t => (fun a : Nat => Value.int IntKind.u8 (a : Int)) <$> Rtype.kind t) #[.pointer (some ⟨5, 144, none⟩)]).run Tryz.prog w = .ok (.int .u8 22) w := by kernel_rfl
theorem rf_kindE (w : World) : ((ReflectliteType.abiMethod fun t => (fun a : Nat => Value.int IntKind.u8 (a : Int)) <$> Rtype.kind t) #[.pointer (some ⟨5, 98, none⟩)]).run Tryz.prog w = .ok (.int .u8 2) w := by kernel_rfl
theorem rlm (z : Sem Value) (f : TypeId → Addr → Nat → Nat → Sem Value) (v : Value) :
    ReflectliteValue.method z f #[v] = (do match ← ReflectliteValue.parts v with | none => z | some (t, a, fl) => f t a fl (fl % 32)) := rfl
theorem rf_partsT (a : Addr) (w : World) : (ReflectliteValue.parts (.agg #[.pointer (some ⟨5, 144, none⟩), .pointer (some a), .int .u64 150])).run Tryz.prog w = .ok (some (144, a, 150)) w := by kernel_rfl
theorem rf_isNilT (a p : Addr) (W : World) (ha : W.cell? a = some (.pointer (some p))) :
    (ReflectliteValue.method (ReflectliteValue.valueError "reflectlite.Value.IsNil" 0) ReflectliteValue.isNil #[.agg #[.pointer (some ⟨5, 144, none⟩), .pointer (some a), .int .u64 150]]).run Tryz.prog W = .ok (.bool false) W := by
  rw [rlm]
  simp only [Sem.run_bind, rf_partsT, Result.andThen]
  simp [ReflectliteValue.isNil, loadVar, isAgg, underlying, Tryz.underlying144, ha, Result.andThen]
theorem rf_mElem (h : Value) (w : World) : (Go.method 502 262 (.agg #[h]) "Elem").run Tryz.prog w = .ok (305, .agg #[h]) w := by kernel_rfl
theorem rf_mImpl (h : Value) (w : World) : (Go.method 502 262 (.agg #[h]) "Implements").run Tryz.prog w = .ok (306, .agg #[h]) w := by kernel_rfl
theorem rf_mAssign (h : Value) (w : World) : (Go.method 502 262 (.agg #[h]) "AssignableTo").run Tryz.prog w = .ok (303, .agg #[h]) w := by kernel_rfl
theorem rf_elemT (w : World) : (ReflectliteType.method ReflectliteType.elem #[.agg #[.pointer (some ⟨5, 144, none⟩)]]).run Tryz.prog w = .ok (.iface 262 (.agg #[.pointer (some ⟨5, 98, none⟩)])) w := by kernel_rfl
theorem rf_implE (w : World) : (ReflectliteType.relation "Implements" ReflectliteType.implements_ #[.agg #[.pointer (some ⟨5, 98, none⟩)], .iface 262 (.agg #[.pointer (some ⟨5, 82, none⟩)])]).run Tryz.prog w = .ok (.bool true) w := by kernel_rfl
theorem rf_typeOfE (v : Value) (w : World) : (ReflectliteType.typeOf #[.iface 98 v]).run Tryz.prog w = .ok (.iface 262 (.agg #[.pointer (some ⟨5, 98, none⟩)])) w := by kernel_rfl
theorem rf_assignE (w : World) : (ReflectliteType.relation "AssignableTo" ReflectliteType.assignableTo #[.agg #[.pointer (some ⟨5, 98, none⟩)], .iface 262 (.agg #[.pointer (some ⟨5, 98, none⟩)])]).run Tryz.prog w = .ok (.bool true) w := by kernel_rfl
theorem rf_valueE (c : Int) (w : World) : (ReflectliteValue.unpack (.iface 98 (.int .i64 c))).run Tryz.prog w
    = .ok (.agg #[.pointer (some ⟨5, 98, none⟩), .pointer (some ⟨w.heap.size, 0, none⟩), .int .u64 130]) (w.alloc (.cells #[.int .i64 c] 98)) := by kernel_rfl
theorem rf_elemOfT (w : World) : (Rtype.elem? 144).run Tryz.prog w = .ok (some 98) w := by kernel_rfl
theorem rf_mkE (p : Addr) (w : World) : (ReflectliteValue.mk 98 p ReflectliteValue.flagAddr).run Tryz.prog w = .ok (.agg #[.pointer (some ⟨5, 98, none⟩), .pointer (some p), .int .u64 386]) w := by kernel_rfl
theorem rf_elemV (a p : Addr) (W : World) (ha : W.cell? a = some (.pointer (some p))) :
    (ReflectliteValue.method (ReflectliteValue.valueError "reflectlite.Value.Elem" 0) ReflectliteValue.elem #[.agg #[.pointer (some ⟨5, 144, none⟩), .pointer (some a), .int .u64 150]]).run Tryz.prog W
      = .ok (.agg #[.pointer (some ⟨5, 98, none⟩), .pointer (some p), .int .u64 386]) W := by
  rw [rlm]
  simp only [Sem.run_bind, rf_partsT, Result.andThen]
  simp [ReflectliteValue.elem, loadVar, isAgg, underlying, Tryz.underlying144, ha, Result.andThen, rf_elemOfT, rf_mkE]
theorem rls (v x : Value) : ReflectliteValue.set #[v, x] = (do
    let (some (dst, a, fl), some (src, b, _)) := (← ReflectliteValue.parts v, ← ReflectliteValue.parts x)
      | unsupported (.noEntry "extern/(internal/reflectlite.Value).Set.zeroValue")
    if fl / ReflectliteValue.flagAddr % 2 == 0 then unsupported (.noEntry "extern/(internal/reflectlite.Value).Set.unaddressable")
    let val ← loadVar src b
    if ← Rtype.directlyAssignable dst src then storeVar dst a val
    else if ← Rtype.implements dst src then
      if (← Rtype.kind src) == 20 then
        match val with
        | .nilIface => unsupported (.noEntry "extern/reflectlite: a nil value of one interface type handed on as a value of another")
        | _ => storeVar dst a val
      else storeVar dst a (.iface src val)
    else panicString ("reflectlite.Set: value of type " ++ (← Rtype.spelt src) ++ " is not assignable to type " ++ (← Rtype.spelt dst))
    pure (.tuple #[])) := rfl
theorem rf_partsEa (a : Addr) (w : World) : (ReflectliteValue.parts (.agg #[.pointer (some ⟨5, 98, none⟩), .pointer (some a), .int .u64 386])).run Tryz.prog w = .ok (some (98, a, 386)) w := by kernel_rfl
theorem rf_partsE (a : Addr) (w : World) : (ReflectliteValue.parts (.agg #[.pointer (some ⟨5, 98, none⟩), .pointer (some a), .int .u64 130])).run Tryz.prog w = .ok (some (98, a, 130)) w := by kernel_rfl
theorem rf_direct (w : World) : (Rtype.directlyAssignable 98 98).run Tryz.prog w = .ok true w := by kernel_rfl
theorem rf_size (w : World) : (sizeOf 98).run Tryz.prog w = .ok 1 w := by kernel_rfl
theorem rf_set (ta b : Addr) (c : Int) (old : Value) (W : World) (hb : W.cell? b = some (.int .i64 c)) (ht : W.cell? ta = some old) (hf : W.frozen? ta = false) :
    (ReflectliteValue.set #[.agg #[.pointer (some ⟨5, 98, none⟩), .pointer (some ta), .int .u64 386], .agg #[.pointer (some ⟨5, 98, none⟩), .pointer (some b), .int .u64 130]]).run Tryz.prog W
      = .ok (.tuple #[]) (W.setCell ta (.int .i64 c)) := by
  rw [rls]
  simp only [Sem.run_bind, rf_partsEa, rf_partsE, Result.andThen]
  simp [ReflectliteValue.flagAddr, loadVar, isAgg, underlying, Tryz.underlying98, hb, Result.andThen, rf_direct, storeVar, Value.cells, storeCells, Addr.add]
  rw [run_store Tryz.prog W ta _ _ (by rfl)]
  simp [ht, hf]
/-- The library's own: what an error is. -/
def ErrCell (w : World) : Prop := w.cell? ⟨(0 : Nat), 0, none⟩ = some (.iface 262 (.agg #[.pointer (some ⟨5, 82, none⟩)]))
theorem ErrCell.below {w w' : World} (h : ErrCell w) (hB : Below w.heap.size w w') : ErrCell w' := cell_later hB h
theorem blk_frozenS {w : World} {g t : Nat} {cs : Array Value} (h : w.heap[g]? = some (.cells cs t (0, 0))) (i : Nat) : w.frozen? ⟨g, i, none⟩ = false := blk_frozen h i
set_option maxHeartbeats 4000000 in
set_option maxRecDepth 100000 in
theorem as_errno (nb vb : Nat) (code : Int) (old : Value) (t : Nat) (w : World) (hnb : w.heap[nb]? = some (.cells #[old] t (0, 0))) (hvb : w.cell? ⟨vb, 0, none⟩ = some (.pointer (some ⟨nb, 0, none⟩))) :
    Calls Tryz.prog 107 #[.iface 98 (.int .i64 code), .iface 144 (.pointer (some ⟨nb, 0, none⟩)), .agg #[.pointer (some ⟨5, 144, none⟩), .pointer (some ⟨vb, 0, none⟩), .int .u64 150], .iface 262 (.agg #[.pointer (some ⟨5, 98, none⟩)])] w fun ev w' => ev = .returned (.bool true) ∧ w' = ((w.alloc (.cells #[.pointer (some ⟨5, 144, none⟩), .pointer (some ⟨vb, 0, none⟩), .int .u64 150] 185)).alloc (.cells #[.int .i64 code] 98)).setCell ⟨nb, 0, none⟩ (.int .i64 code) := by
  have h10 := @run_callFunc_extern Tryz.prog 143 _ ReflectliteType.typeOf Tryz.func143 (by kernel_rfl) (by kernel_rfl) (by kernel_rfl) (by kernel_rfl)
  have h35 := @run_callFunc_extern Tryz.prog 303 _ (ReflectliteType.relation "AssignableTo" ReflectliteType.assignableTo) Tryz.func303 (by kernel_rfl) (by kernel_rfl) (by kernel_rfl) (by kernel_rfl)
  have h6 := @run_callFunc_extern Tryz.prog 104 _ (fun args => ReflectliteValue.unpack (args.getD 0 (.tuple #[]))) Tryz.func104 (by kernel_rfl) (by kernel_rfl) (by kernel_rfl) (by kernel_rfl)
  have h11 := @run_callFunc_extern Tryz.prog 144 _ (ReflectliteValue.method (ReflectliteValue.valueError "reflectlite.Value.Elem" 0) ReflectliteValue.elem) Tryz.func144 (by kernel_rfl) (by kernel_rfl) (by kernel_rfl) (by kernel_rfl)
  have h12 := @run_callFunc_extern Tryz.prog 145 _ ReflectliteValue.set Tryz.func145 (by kernel_rfl) (by kernel_rfl) (by kernel_rfl) (by kernel_rfl)
  have tE := rf_typeOfE
  have mA := rf_mAssign
  have aE := rf_assignE
  have vE := rf_valueE
  have HPA := (Hp.nil w).alloc (.cells #[.pointer (some ⟨5, 144, none⟩), .pointer (some ⟨vb, 0, none⟩), .int .u64 150] 185)
  have HPC := HPA.alloc (.cells #[.int .i64 code] 98)
  have el := rf_elemV ⟨vb, 0, none⟩ ⟨nb, 0, none⟩ _ (cell_later HPA.belowW hvb)
  have hlt := (Array.getElem?_eq_some_iff.1 hnb).1
  have hnc := (HPC.belowW.block nb hlt).trans hnb
  have st := rf_set ⟨nb, 0, none⟩ ⟨(w.alloc (.cells #[.pointer (some ⟨5, 144, none⟩), .pointer (some ⟨vb, 0, none⟩), .int .u64 150] 185)).heap.size, 0, none⟩ code old _ (blk_cell HPC.blk0 0) (blk_cell hnc 0) (blk_frozen hnc 0)
  have hz : (w.alloc (.cells #[.pointer (some ⟨5, 144, none⟩), .pointer (some ⟨vb, 0, none⟩), .int .u64 150] 185)).heap.size = w.heap.size + 1 := by simp
  rw [hz] at st
  clear hnc hlt HPA HPC hz
  go_enter Tryz.func107, Tryz.ntmps107
  go_wp2
  refine wp_loop_rounds 1 ?_
  rw [rounds_succ]
  go_wp2
  go_ret
  exact ⟨rfl, rfl⟩
end Go.Proofs.YtipdleiginnjmaaGreatDoor
set_option linter.unusedVariables false
set_option linter.unusedSimpArgs false
namespace Go.Proofs.YtipdleiginnjmaaGreatDoor
open Go.RowKit Go.Extern.Stop Go.Stop Go.Extern Go.Proofs.YtipdleiginnjmaaGreatDoorW.PrintWords
section
variable {w0 w : World} {Ps : List Asn}
theorem Hp.dropAt {P Q : Asn} (h : Hp w0 w (P :: Q :: Ps)) : Hp w0 w (P :: Ps) := h.swap.tail
set_option maxHeartbeats 4000000 in
set_option maxRecDepth 100000 in
theorem Hp.asErr {nb t : Nat} {old : Value} (h : Hp w0 w (ABlk nb (.cells #[old] t (0, 0)) :: Ps)) (hE : ErrCell w) (code : Int) :
    Calls Tryz.prog 67 #[.iface 98 (.int .i64 code), .iface 144 (.pointer (some ⟨nb, 0, none⟩))] w fun e w' => e = .returned (.bool true) ∧ Hp w0 w' (ABlk nb (.cells #[.int .i64 code] t (0, 0)) :: Ps) := by
  have h6 := @run_callFunc_extern Tryz.prog 104 _ (fun args => ReflectliteValue.unpack (args.getD 0 (.tuple #[]))) Tryz.func104 (by kernel_rfl) (by kernel_rfl) (by kernel_rfl) (by kernel_rfl)
  have h7 := @run_callFunc_extern Tryz.prog 105 _ (ReflectliteValue.methodAny (ReflectliteValue.valueError "reflectlite.Value.Type" 0) (fun t _ _ _ => ReflectliteType.toType t)) Tryz.func105 (by kernel_rfl) (by kernel_rfl) (by kernel_rfl) (by kernel_rfl)
  have h8 := @run_callFunc_extern Tryz.prog 106 _ (ReflectliteValue.method (ReflectliteValue.valueError "reflectlite.Value.IsNil" 0) ReflectliteValue.isNil) Tryz.func106 (by kernel_rfl) (by kernel_rfl) (by kernel_rfl) (by kernel_rfl)
  have h27 := @run_callFunc_extern Tryz.prog 291 _ (ReflectliteType.abiMethod fun t => do pure (.int .u8 (← Rtype.kind t))) Tryz.func291 (by kernel_rfl) (by kernel_rfl) (by kernel_rfl) (by kernel_rfl)
  have h37 := @run_callFunc_extern Tryz.prog 305 _ (ReflectliteType.method ReflectliteType.elem) Tryz.func305 (by kernel_rfl) (by kernel_rfl) (by kernel_rfl) (by kernel_rfl)
  have h38 := @run_callFunc_extern Tryz.prog 306 _ (ReflectliteType.relation "Implements" ReflectliteType.implements_) Tryz.func306 (by kernel_rfl) (by kernel_rfl) (by kernel_rfl) (by kernel_rfl)
  have f6 := rf_valueT
  have f7 := rf_typeT
  have mK := rf_mKind
  have mE := rf_mElem
  have mI := rf_mImpl
  have k27 := rf_kindT
  have k25 := rf_kindE
  have e27 := rf_elemT
  have i25 := rf_implE
  have HA1 := h.alloc (.cells #[.pointer (some ⟨nb, 0, none⟩)] 144)
  have HA2 := HA1.alloc (.cells #[.pointer (some ⟨5, 144, none⟩), .pointer (some ⟨w.heap.size, 0, none⟩), .int .u64 150] 185)
  have n8 := rf_isNilT ⟨w.heap.size, 0, none⟩ ⟨nb, 0, none⟩ _ (blk_cell HA2.blk1 0)
  have HB2 : Below w.heap.size w ((w.alloc (.cells #[.pointer (some ⟨nb, 0, none⟩)] 144)).alloc (.cells #[.pointer (some ⟨5, 144, none⟩), .pointer (some ⟨w.heap.size, 0, none⟩), .int .u64 150] 185)) := below_alloc (below_alloc (Below.refl _ _) _) _
  have hg2 := hE.below HB2
  unfold ErrCell at hg2
  have has := as_errno nb w.heap.size code old t _ HA2.up2.blk0 (blk_cell HA2.blk1 0)
  have HP3 := Lib.hid (HA2.alloc (.cells #[.pointer (some ⟨5, 144, none⟩), .pointer (some ⟨w.heap.size, 0, none⟩), .int .u64 150] 185))
  have HP4 := Lib.hid ((HP3.out.alloc (.cells #[.int .i64 code] 98)).perm (List.perm_middle (l₁ := [_, _, _, _])))
  have HP5 := Lib.hid (HP4.out.setBlk 0 (.int .i64 code)).dropAt.dropAt.dropAt.dropAt
  have HAS := Lib.hid has
  clear has HA1 HA2 HP3 HP4 HB2 h hE
  go_enter Tryz.func67, Tryz.ntmps67
  go_wp2_with (go_at_call 107; refine Calls.mono HAS.out ?_; rintro e w1 ⟨rfl, rfl⟩)
  go_ret
  exact ⟨rfl, HP5.out⟩
theorem info_ansS : (Tryz.prog.info? 36).map (·.size) = some 3 := by kernel_rfl
set_option maxHeartbeats 4000000 in
set_option maxRecDepth 100000 in
theorem failed_any (code : Int) (w : World) (hE : ErrCell w) :
    Calls Tryz.prog 37 #[.iface 98 (.int .i64 code)] w fun e w' => e = .returned (.agg #[.int .i64 code, .slice none 0 0, .slice none 0 0]) ∧ Below w.heap.size w w' := by
  have hp := ((Hp.nil w).alloc (.cells #[.int .i64 0, .slice none 0 0, .slice none 0 0] 36)).alloc (.cells #[.int .i64 0] 98)
  have hz : (w.alloc (.cells #[.int .i64 0, .slice none 0 0, .slice none 0 0] 36)).heap.size = w.heap.size + 1 := by simp
  rw [hz] at hp
  have HP0 := Lib.hid hp
  have HA := Lib.hid (HP0.out.asErr (hE.below HP0.out.belowW) code)
  clear hp hz hE
  go_enter Tryz.func37, Tryz.ntmps37
  go_wp2_with fail
  refine Calls.mono HA.out ?_
  rintro e w1 ⟨rfl, hP⟩
  have HP1 := Lib.hid hP
  have c0 := blk_cell hP.blk0 0
  simp only [List.getElem?_toArray, List.getElem?_cons_zero] at c0
  clear hP
  go_wp2_with ((with_reducible refine gate_store (t := 36) (p := 2) (v := .tmp 8) rfl ?_); refine wpList_store_row rfl 36 (.tmp 2) (.tmp 8) rfl w.heap.size #[.int .i64 code, .slice none 0 0, .slice none 0 0] rfl rfl 36 #[.int .i64 0, .slice none 0 0, .slice none 0 0] HP1.out.blk1 info_ansS rfl (by simp [Value.oneCell']) ?_)
  have HPZ := Lib.hid (HP1.out.swap.setRowBlkS #[.int .i64 code, .slice none 0 0, .slice none 0 0])
  refine bodyPost_ret (results_cell_row rfl _ _ w.heap.size 36 #[.int .i64 code, .slice none 0 0, .slice none 0 0] (0, 0) _ rfl HPZ.out.blk0 Tryz.underlying36 rfl info_ansS) rfl ?_
  exact ⟨rfl, HPZ.out.belowW⟩
end
end Go.Proofs.YtipdleiginnjmaaGreatDoor
namespace Go.Proofs.YtipdleiginnjmaaGreatDoor
open Go.RowKit Go.Proofs.YtipdleiginnjmaaGreatDoorW.PrintWords

set_option maxHeartbeats 400000 in
theorem clone_took (A : Option Addr) (c : Nat) (xs : List Tk) (w : World) (hC : KTk.C w A xs.length xs) (hc : xs.length ≤ c) (hb : xs.length * 64 ≤ 140737488355328) :
    Calls Tryz.prog 72 #[.slice A xs.length c] w fun e w' => ∃ A' c', e = .returned (.slice A' xs.length c') ∧ Kd.R KTk 45 w' w.heap.size (fun _ => True) (.slice A' xs.length c') xs ∧ Below w.heap.size w w' := by
  have hnil := fun (w : World) (a : Option Addr) (n c : Nat) => Lib.run_eql_slice_nil (P := Tryz.prog) w 34 45 a n c 0 0 Tryz.underlying34
  cases A with
  | none =>
    have h0 : xs = [] := by
      by_cases h : 0 < xs.length
      · obtain ⟨ad, h1, _⟩ := hC.2.2 h; cases h1
      · exact List.eq_nil_of_length_eq_zero (by omega)
    subst h0
    go_enter Tryz.func72, Tryz.ntmps72
    go_wp2
    go_ret
    exact ⟨_, _, rfl, Kd.R_nil _ _ _ _ _, Below.refl _ _⟩
  | some ad =>
    go_enter Tryz.func72, Tryz.ntmps72
    go_wp2_with (at_builtin; refine Kd.R_append_rows KTk (w0 := w) w.heap.size rfl (.tmp 5) (.tmp 6) 34 45 (.agg #[.int .i64 0, .int .i64 0, .string ⟨#[]⟩, .string ⟨#[]⟩, .string ⟨#[]⟩]) 64 rfl Tryz.underlying34 info_took rfl (by decide) (by omega) (.slice (some ⟨w.heap.size, 0, none⟩) 0 0) [] xs (some ad) xs.length c (fun _ => True) (fun _ => False) rfl rfl ?a1 ?a2 (fun _ _ h => h) (fun _ h => h.elim) (fun _ _ => trivial) (below_alloc (Below.refl _ _) _) ?a3 ?a4 ?a5)
    case a1 => exact R_empty _ _ _ _ _ (Nat.le_refl _) trivial
    case a2 => exact Kd.C_alloc hC _
    case a3 => simp
    case a4 => simpa using hb
    case a5 =>
      intro v1 w1 h1 h2 _ _
      obtain ⟨A', c', hv⟩ := Kd.R_slice h1
      have HV := Lib.hid hv
      clear hv
      go_wp2
      go_ret
      exact ⟨A', c', by rw [HV.out]; simp, by rw [HV.out] at h1; simpa using h1, h2⟩

end Go.Proofs.YtipdleiginnjmaaGreatDoor
