/- Put together: A queue: what waits, and what is leased: its plain law. No program in it. · A queue's parts (a map of messages, a lane, a timer, a ledger) and what it is: how they go together. No program in it. · A queue's Tick: the plain law of its two loops. No program in it. · Receipts: a number, a point, a number; two receipts are the same just if both numbers are. No program in it. · A queue's loops, and the document's, as lists: what stands when some rounds are done. No program in it. -/
import Derived.Test.YtipdleiginnjmaaGreatDoorH2
import Derived.Test.YtipdleiginnjmaaGreatDoorH3
import Derived.Test.YtipdleiginnjmaaGreatDoorH4
import Derived.Lib.ItoaMem
set_option linter.unusedVariables false
set_option linter.unusedSimpArgs false
namespace Go.Proofs.YtipdleiginnjmaaGreatDoor

/-- Attributes. -/
structure QA where
  vis : Int
  ret : Int
  del : Int
  win : Int
  max : Int
  dead : ByteArray
  fifo : Bool
/-- A message: until when it waits (at_), and until when it is leased (till), if it is. -/
structure Msg where
  id : Int
  sent : Int
  count : Int
  at_ : Int
  till : Int
  leased : Bool
  body : ByteArray
  group : ByteArray
/-- A queue: attributes, the time, the next number, messages, rising, and keys. -/
structure Qs where
  a : QA
  now : Int
  next : Int
  l : List Msg
  k : List (Ent Int)
/-- Whether attributes may be. -/
def qRight (a : QA) : Bool := decide (1 ≤ a.vis ∧ a.vis ≤ 1048576 ∧ 1 ≤ a.ret ∧ a.ret ≤ 1048576 ∧ 0 ≤ a.del ∧ a.del ≤ 1048576 ∧ 0 ≤ a.win ∧ a.win ≤ 1048576 ∧ 0 ≤ a.max ∧ a.max ≤ 100 ∧ a.dead.size ≤ 64 ∧ (0 < a.max ↔ 0 < a.dead.size))
def qNew (a : QA) : Qs := ⟨a, 0, 1, [], []⟩
/-- The time a message waits, or is leased, until: as the document has it. -/
def Msg.time (m : Msg) : Int := if m.leased then m.till else m.at_
/-- What becomes of a message when its lease ends. -/
def Msg.lapse (m : Msg) (now : Int) : Msg := if m.leased && decide (m.till ≤ now) then { m with leased := false, at_ := now, till := 0 } else m
def Msg.over (m : Msg) (now : Int) : Bool := m.leased && decide (m.till ≤ now)
def Msg.dies (m : Msg) (a : QA) (now : Int) : Bool := m.over now && decide (0 < a.max ∧ a.max ≤ m.count)
def Msg.goes (m : Msg) (a : QA) (now : Int) : Bool := !m.dies a now && decide (m.sent + a.ret ≤ now)
def Msg.stays (m : Msg) (a : QA) (now : Int) : Bool := !m.dies a now && !decide (m.sent + a.ret ≤ now)
/-- Whether time may go on to now. -/
def qMay (σ : Qs) (now : Int) : Bool := decide (σ.now ≤ now ∧ now ≤ 1099511627776)
def qTick (σ : Qs) (now : Int) : Qs := { σ with now := now, l := (σ.l.filter (fun m => m.stays σ.a now)).map (fun m => m.lapse now), k := σ.k.filter (fun p => decide (now < p.2.2)) }
def qDead (σ : Qs) (now : Int) : List Msg := σ.l.filter (fun m => m.dies σ.a now)
def qGone (σ : Qs) (now : Int) : List Int := (σ.l.filter (fun m => m.goes σ.a now)).map (·.id)
/-- Whether a message may be sent. -/
def qMaySend (a : QA) (body group key : ByteArray) (delay : Int) : Bool :=
  decide (body.size ≤ 256 ∧ group.size ≤ 256 ∧ key.size ≤ 256) && (if a.fifo then decide (0 < group.size ∧ delay = -1) else decide (group.size = 0 ∧ -1 ≤ delay ∧ delay ≤ 1048576))
def qKnows (a : QA) (key : ByteArray) : Bool := decide (0 < key.size ∧ 0 < a.win)
def qFull (σ : Qs) (key : ByteArray) : Bool := decide (1024 ≤ σ.l.length) || (qKnows σ.a key && decide (4096 ≤ σ.k.length))
def qSent (σ : Qs) (body group key : ByteArray) (delay : Int) : Qs :=
  { σ with next := σ.next + 1, l := σ.l ++ [⟨σ.next, σ.now, 0, σ.now + (if delay < 0 then σ.a.del else delay), 0, false, body, group⟩], k := if qKnows σ.a key then σ.k ++ [(key, (σ.next, σ.now + σ.a.win))] else σ.k }
/-- A Send: what it leaves, the number, the error. -/
def qSend (σ : Qs) (body group key : ByteArray) (delay : Int) : Qs × (Int × Int) :=
  if qMaySend σ.a body group key delay = false then (σ, (0, 1))
  else match mget σ.k key with
    | some x => (σ, (x.1, 0))
    | none => if qFull σ key then (σ, (0, 5)) else (qSent σ body group key delay, (σ.next, 0))
/-- Whether a message can be received: by the time, and by its group. -/
def qFirst (l : List Msg) (m : Msg) : Bool := !(l.any (fun x => decide (x.id < m.id ∧ x.group = m.group)))
def qReady (σ : Qs) : List Msg := σ.l.filter (fun m => !m.leased && decide (m.at_ ≤ σ.now) && (!σ.a.fifo || qFirst σ.l m))
def Msg.take (m : Msg) (till : Int) : Msg := { m with leased := true, till := till, count := m.count + 1 }
def qTook (σ : Qs) (n : Nat) : List Msg := (qReady σ).take n
def qRecv (σ : Qs) (n : Nat) (vis : Int) : Qs := { σ with l := σ.l.map (fun m => if (qTook σ n).any (fun x => decide (x.id = m.id)) then m.take (σ.now + vis) else m) }
def qMayRecv (n vis : Int) : Bool := decide (1 ≤ n ∧ n ≤ 10 ∧ 0 ≤ vis ∧ vis ≤ 1048576)
/-- A message goes. -/
def qDrop (σ : Qs) (id : Int) : Qs := { σ with l := σ.l.filter (fun m => decide (m.id ≠ id)) }
/-- A lease lasts until a time; ends now. -/
def qLast (σ : Qs) (id till : Int) : Qs := { σ with l := σ.l.map (fun m => if m.id = id then { m with leased := true, till := till } else m) }
def qEnd (σ : Qs) (id : Int) : Qs := { σ with l := σ.l.map (fun m => if m.id = id then { m with leased := false, till := 0, at_ := σ.now } else m) }
def qPurge (σ : Qs) : Qs := { σ with l := [] }
def qSet (σ : Qs) (a : QA) : Qs := if qRight a && (a.fifo == σ.a.fifo) then { σ with a := a } else σ

/-- What holds of any queue (T: how often something came). -/
structure QInv (σ : Qs) (T : Nat) : Prop where
  right : qRight σ.a = true
  rise : σ.l.Pairwise (fun a b => a.id < b.id)
  ids : ∀ m ∈ σ.l, 0 < m.id ∧ m.id < σ.next
  nxt : 0 < σ.next ∧ σ.next ≤ T + 1
  now : 0 ≤ σ.now ∧ σ.now ≤ 1099511627776
  cnt : ∀ m ∈ σ.l, 0 ≤ m.count ∧ m.count ≤ T
  sent : ∀ m ∈ σ.l, 0 ≤ m.sent ∧ m.sent ≤ 1099511627776
  at_ : ∀ m ∈ σ.l, 0 ≤ m.at_ ∧ m.at_ ≤ 2199023255552
  till : ∀ m ∈ σ.l, 0 ≤ m.till ∧ m.till ≤ 2199023255552
  len : σ.l.length ≤ 1024
  text : ∀ m ∈ σ.l, m.body.size ≤ 256 ∧ m.group.size ≤ 256
  klen : σ.k.length ≤ 4096
  knd : (σ.k.map (·.1)).Nodup
  kne : ∀ p ∈ σ.k, 0 < p.1.size ∧ p.1.size ≤ 256
  kid : ∀ p ∈ σ.k, 0 < p.2.1 ∧ p.2.1 < σ.next
theorem QInv.mono {σ : Qs} {T T' : Nat} (h : QInv σ T) (hT : T ≤ T') : QInv σ T' := { h with nxt := ⟨h.nxt.1, by have := h.nxt.2; omega⟩, cnt := fun m hm => ⟨(h.cnt m hm).1, by have := (h.cnt m hm).2; omega⟩ }
theorem QInv.new {a : QA} (h : qRight a = true) : QInv (qNew a) 0 := by
  refine ⟨h, List.Pairwise.nil, ?_, ⟨?_, ?_⟩, ⟨?_, ?_⟩, ?_, ?_, ?_, ?_, ?_, ?_, ?_, ?_, ?_, ?_⟩ <;> simp [qNew]
theorem lapse_id (m : Msg) (now : Int) : (m.lapse now).id = m.id := by unfold Msg.lapse; split <;> rfl
theorem lapse_group (m : Msg) (now : Int) : (m.lapse now).group = m.group := by unfold Msg.lapse; split <;> rfl
theorem QInv.tick {σ : Qs} {T : Nat} (h : QInv σ T) {now : Int} (hn : qMay σ now = true) : QInv (qTick σ now) T := by
  unfold qMay at hn
  rw [decide_eq_true_iff] at hn
  have hm : ∀ m ∈ (qTick σ now).l, ∃ x ∈ σ.l, m = x.lapse now := by
    intro m hm
    obtain ⟨x, hx, rfl⟩ := List.mem_map.1 hm
    exact ⟨x, (List.mem_filter.1 hx).1, rfl⟩
  have hk : ∀ p ∈ (qTick σ now).k, p ∈ σ.k := fun p hp => (List.mem_filter.1 hp).1
  have hnow := h.now
  refine ⟨h.right, ?_, ?_, h.nxt, ⟨?_, hn.2⟩, ?_, ?_, ?_, ?_, ?_, ?_, ?_, ?_, fun p hp => h.kne p (hk p hp), fun p hp => h.kid p (hk p hp)⟩
  · show ((σ.l.filter _).map _).Pairwise _
    rw [List.pairwise_map]
    refine (h.rise.filter _).imp (fun {a b} hab => ?_)
    rw [lapse_id, lapse_id]
    exact hab
  · intro m hx
    obtain ⟨x, hx2, rfl⟩ := hm m hx
    rw [lapse_id]
    exact h.ids x hx2
  · show 0 ≤ now
    omega
  · intro m hx
    obtain ⟨x, hx2, rfl⟩ := hm m hx
    have := h.cnt x hx2
    unfold Msg.lapse
    split <;> exact this
  · intro m hx
    obtain ⟨x, hx2, rfl⟩ := hm m hx
    have := h.sent x hx2
    unfold Msg.lapse
    split <;> exact this
  · intro m hx
    obtain ⟨x, hx2, rfl⟩ := hm m hx
    have := h.at_ x hx2
    unfold Msg.lapse
    split
    · show 0 ≤ now ∧ now ≤ 2199023255552
      omega
    · exact this
  · intro m hx
    obtain ⟨x, hx2, rfl⟩ := hm m hx
    have := h.till x hx2
    unfold Msg.lapse
    split
    · show (0 : Int) ≤ 0 ∧ (0 : Int) ≤ 2199023255552
      omega
    · exact this
  · show ((σ.l.filter _).map _).length ≤ 1024
    rw [List.length_map]
    exact Nat.le_trans (List.length_filter_le _ _) h.len
  · intro m hx
    obtain ⟨x, hx2, rfl⟩ := hm m hx
    have := h.text x hx2
    unfold Msg.lapse
    split <;> exact this
  · exact Nat.le_trans (List.length_filter_le _ _) h.klen
  · exact (List.Sublist.map _ List.filter_sublist).nodup h.knd
theorem QInv.drop {σ : Qs} {T : Nat} (h : QInv σ T) (id : Int) : QInv (qDrop σ id) T := by
  have hm : ∀ m ∈ (qDrop σ id).l, m ∈ σ.l := fun m hm => (List.mem_filter.1 hm).1
  exact ⟨h.right, h.rise.filter _, fun m hx => h.ids m (hm m hx), h.nxt, h.now, fun m hx => h.cnt m (hm m hx), fun m hx => h.sent m (hm m hx), fun m hx => h.at_ m (hm m hx), fun m hx => h.till m (hm m hx), Nat.le_trans (List.length_filter_le _ _) h.len, fun m hx => h.text m (hm m hx), h.klen, h.knd, h.kne, h.kid⟩
theorem QInv.purge {σ : Qs} {T : Nat} (h : QInv σ T) : QInv (qPurge σ) T :=
  ⟨h.right, List.Pairwise.nil, fun m hx => absurd hx (by simp [qPurge]), h.nxt, h.now, fun m hx => absurd hx (by simp [qPurge]), fun m hx => absurd hx (by simp [qPurge]), fun m hx => absurd hx (by simp [qPurge]), fun m hx => absurd hx (by simp [qPurge]), by simp [qPurge], fun m hx => absurd hx (by simp [qPurge]), h.klen, h.knd, h.kne, h.kid⟩
theorem QInv.set {σ : Qs} {T : Nat} (h : QInv σ T) (a : QA) : QInv (qSet σ a) T := by
  unfold qSet
  split
  · rename_i hr
    rw [Bool.and_eq_true] at hr
    exact { h with right := hr.1 }
  · exact h
/-- Its messages are changed one by one; their numbers stay. -/
theorem QInv.map {σ : Qs} {T : Nat} (h : QInv σ T) {f : Msg → Msg} (hf : ∀ m ∈ σ.l, (f m).id = m.id ∧ (0 ≤ (f m).count ∧ (f m).count ≤ T) ∧ (f m).sent = m.sent ∧ (0 ≤ (f m).at_ ∧ (f m).at_ ≤ 2199023255552) ∧ (0 ≤ (f m).till ∧ (f m).till ≤ 2199023255552) ∧ (f m).body = m.body ∧ (f m).group = m.group) : QInv { σ with l := σ.l.map f } T := by
  have hm : ∀ m ∈ σ.l.map f, ∃ x ∈ σ.l, m = f x := by
    intro m hm
    obtain ⟨x, hx, rfl⟩ := List.mem_map.1 hm
    exact ⟨x, hx, rfl⟩
  refine ⟨h.right, ?_, ?_, h.nxt, h.now, ?_, ?_, ?_, ?_, ?_, ?_, h.klen, h.knd, h.kne, h.kid⟩
  · show (σ.l.map f).Pairwise _
    rw [List.pairwise_map]
    refine h.rise.imp_of_mem (fun {a b} ha hb hab => ?_)
    rw [(hf a ha).1, (hf b hb).1]
    exact hab
  · intro m hx
    obtain ⟨x, hx2, rfl⟩ := hm m hx
    rw [(hf x hx2).1]
    exact h.ids x hx2
  · intro m hx
    obtain ⟨x, hx2, rfl⟩ := hm m hx
    exact (hf x hx2).2.1
  · intro m hx
    obtain ⟨x, hx2, rfl⟩ := hm m hx
    rw [(hf x hx2).2.2.1]
    exact h.sent x hx2
  · intro m hx
    obtain ⟨x, hx2, rfl⟩ := hm m hx
    exact (hf x hx2).2.2.2.1
  · intro m hx
    obtain ⟨x, hx2, rfl⟩ := hm m hx
    exact (hf x hx2).2.2.2.2.1
  · show (σ.l.map f).length ≤ 1024
    rw [List.length_map]
    exact h.len
  · intro m hx
    obtain ⟨x, hx2, rfl⟩ := hm m hx
    rw [(hf x hx2).2.2.2.2.2.1, (hf x hx2).2.2.2.2.2.2]
    exact h.text x hx2
theorem QInv.recv {σ : Qs} {T : Nat} (h : QInv σ T) (n : Nat) {vis : Int} (hv : 0 ≤ vis ∧ vis ≤ 1048576) : QInv (qRecv σ n vis) (T + 1) := by
  have hn := h.now
  refine (h.mono (Nat.le_succ T)).map (f := fun m => if (qTook σ n).any (fun x => decide (x.id = m.id)) then m.take (σ.now + vis) else m) (fun m hm => ?_)
  have h1 := h.cnt m hm
  have h2 := h.at_ m hm
  have h3 := h.till m hm
  split
  · refine ⟨rfl, ⟨?_, ?_⟩, rfl, h2, ⟨?_, ?_⟩, rfl, rfl⟩ <;> simp only [Msg.take] <;> omega
  · exact ⟨rfl, by omega, rfl, h2, h3, rfl, rfl⟩
theorem QInv.last {σ : Qs} {T : Nat} (h : QInv σ T) (id : Int) {till : Int} (hv : 0 ≤ till ∧ till ≤ 2199023255552) : QInv (qLast σ id till) T := by
  refine h.map (f := fun m => if m.id = id then { m with leased := true, till := till } else m) (fun m hm => ?_)
  have h1 := h.cnt m hm
  have h2 := h.at_ m hm
  have h3 := h.till m hm
  split
  · exact ⟨rfl, h1, rfl, h2, hv, rfl, rfl⟩
  · exact ⟨rfl, h1, rfl, h2, h3, rfl, rfl⟩
theorem QInv.endNow {σ : Qs} {T : Nat} (h : QInv σ T) (id : Int) : QInv (qEnd σ id) T := by
  have hn := h.now
  refine h.map (f := fun m => if m.id = id then { m with leased := false, till := 0, at_ := σ.now } else m) (fun m hm => ?_)
  have h1 := h.cnt m hm
  have h2 := h.at_ m hm
  have h3 := h.till m hm
  split
  · refine ⟨rfl, h1, rfl, ⟨?_, ?_⟩, ⟨?_, ?_⟩, rfl, rfl⟩ <;> dsimp only <;> omega
  · exact ⟨rfl, h1, rfl, h2, h3, rfl, rfl⟩
theorem QInv.sendNew {σ : Qs} {T : Nat} (h : QInv σ T) {body group key : ByteArray} {delay : Int} (hs : qMaySend σ.a body group key delay = true) (hk : mget σ.k key = none) (hf : qFull σ key = false) : QInv (qSent σ body group key delay) (T + 1) := by
  unfold qMaySend at hs
  rw [Bool.and_eq_true, decide_eq_true_iff] at hs
  have hr := h.right
  unfold qRight at hr
  rw [decide_eq_true_iff] at hr
  have hd : 0 ≤ (if delay < 0 then σ.a.del else delay) ∧ (if delay < 0 then σ.a.del else delay) ≤ 1048576 := by
    have hs2 := hs.2
    split at hs2
    · rw [decide_eq_true_iff] at hs2
      split <;> omega
    · rw [decide_eq_true_iff] at hs2
      split <;> omega
  generalize hde : (if delay < 0 then σ.a.del else delay) = d at hd
  unfold qFull at hf
  rw [Bool.or_eq_false_iff, decide_eq_false_iff_not] at hf
  have hnow := h.now
  have hnx := h.nxt
  have hm : ∀ m ∈ σ.l ++ [⟨σ.next, σ.now, 0, σ.now + d, 0, false, body, group⟩], m ∈ σ.l ∨ m = ⟨σ.next, σ.now, 0, σ.now + d, 0, false, body, group⟩ := by
    intro m hm
    rcases List.mem_append.1 hm with hm | hm
    · exact .inl hm
    · exact .inr (List.mem_singleton.1 hm)
  unfold qSent
  rw [hde]
  refine ⟨h.right, ?_, ?_, ⟨?_, ?_⟩, h.now, ?_, ?_, ?_, ?_, ?_, ?_, ?_, ?_, ?_, ?_⟩
  · show (σ.l ++ _).Pairwise _
    rw [List.pairwise_append]
    refine ⟨h.rise, by simp, fun a ha b hb => ?_⟩
    rw [List.mem_singleton.1 hb]
    exact (h.ids a ha).2
  · intro m hx
    show 0 < m.id ∧ m.id < σ.next + 1
    rcases hm m hx with hx | rfl
    · have := h.ids m hx; omega
    · show 0 < σ.next ∧ σ.next < σ.next + 1
      omega
  · show 0 < σ.next + 1
    omega
  · show σ.next + 1 ≤ ((T + 1 : Nat) : Int) + 1
    omega
  · intro m hx
    rcases hm m hx with hx | rfl
    · have := h.cnt m hx; omega
    · show (0 : Int) ≤ 0 ∧ (0 : Int) ≤ ((T + 1 : Nat) : Int)
      omega
  · intro m hx
    rcases hm m hx with hx | rfl
    · exact h.sent m hx
    · exact h.now
  · intro m hx
    rcases hm m hx with hx | rfl
    · exact h.at_ m hx
    · show 0 ≤ σ.now + d ∧ σ.now + d ≤ 2199023255552
      omega
  · intro m hx
    rcases hm m hx with hx | rfl
    · exact h.till m hx
    · show (0 : Int) ≤ 0 ∧ (0 : Int) ≤ 2199023255552
      omega
  · show (σ.l ++ _).length ≤ 1024
    rw [List.length_append, List.length_singleton]
    omega
  · intro m hx
    rcases hm m hx with hx | rfl
    · exact h.text m hx
    · exact ⟨hs.1.1, hs.1.2.1⟩
  · show (if qKnows σ.a key then σ.k ++ [(key, (σ.next, σ.now + σ.a.win))] else σ.k).length ≤ 4096
    split
    · rename_i hkn
      rw [hkn, Bool.true_and, decide_eq_false_iff_not] at hf
      rw [List.length_append, List.length_singleton]
      omega
    · exact h.klen
  · show ((if qKnows σ.a key then σ.k ++ [(key, (σ.next, σ.now + σ.a.win))] else σ.k).map (·.1)).Nodup
    split
    · rw [List.map_append, List.nodup_append]
      refine ⟨h.knd, by simp, fun a ha b hb => ?_⟩
      obtain ⟨p, hp, rfl⟩ := List.mem_map.1 ha
      have : b = key := by simpa using hb
      rw [this]
      exact mget_none.1 hk p hp
    · exact h.knd
  · intro p hp
    have hp : p ∈ (if qKnows σ.a key then σ.k ++ [(key, (σ.next, σ.now + σ.a.win))] else σ.k) := hp
    split at hp
    · rename_i hkn
      unfold qKnows at hkn
      rw [decide_eq_true_iff] at hkn
      rcases List.mem_append.1 hp with hp | hp
      · exact h.kne p hp
      · rw [List.mem_singleton.1 hp]
        exact ⟨hkn.1, hs.1.2.2⟩
    · exact h.kne p hp
  · intro p hp
    show 0 < p.2.1 ∧ p.2.1 < σ.next + 1
    have hp : p ∈ (if qKnows σ.a key then σ.k ++ [(key, (σ.next, σ.now + σ.a.win))] else σ.k) := hp
    split at hp
    · rcases List.mem_append.1 hp with hp | hp
      · have := h.kid p hp; omega
      · rw [List.mem_singleton.1 hp]
        show 0 < σ.next ∧ σ.next < σ.next + 1
        omega
    · have := h.kid p hp; omega
theorem QInv.send {σ : Qs} {T : Nat} (h : QInv σ T) (body group key : ByteArray) (delay : Int) : QInv (qSend σ body group key delay).1 (T + 1) := by
  unfold qSend
  by_cases hs : qMaySend σ.a body group key delay = false
  · rw [if_pos hs]; exact h.mono (Nat.le_succ T)
  · rw [if_neg hs]
    cases hk : mget σ.k key with
    | some x => exact h.mono (Nat.le_succ T)
    | none =>
      dsimp only
      cases hf : qFull σ key with
      | true => rw [if_pos rfl]; exact h.mono (Nat.le_succ T)
      | false => rw [if_neg (by decide)]; exact h.sendNew (by simpa using hs) hk hf
end Go.Proofs.YtipdleiginnjmaaGreatDoor
namespace Go.Proofs.YtipdleiginnjmaaGreatDoor

/-- A message as it lies in the map: body, group, sent, count, and until when it waits. -/
abbrev Bod := ByteArray × (ByteArray × (Int × (Int × Int)))
def Msg.bod (m : Msg) : Bod := (m.body, (m.group, (m.sent, (m.count, m.at_))))
structure QRel (σ : Qs) (ms : List (Int × Bod)) (s : List En) (ti : List It) (r : List (Ent Int)) : Prop where
  ms : ms.Perm (σ.l.map (fun m => (m.id, m.bod)))
  s : s.map (fun e => (e.1, e.2.1)) = σ.l.map (fun m => (m.id, m.group))
  ti : ti.Perm ((σ.l.filter (·.leased)).map (fun m => (m.id, m.till)))
  r : r.Perm σ.k
theorem QRel.new (a : QA) : QRel (qNew a) [] [] [] [] := ⟨List.Perm.refl _, rfl, List.Perm.refl _, List.Perm.refl _⟩
section
variable {σ : Qs} {T : Nat} {ms : List (Int × Bod)} {s : List En} {ti : List It} {r : List (Ent Int)}
theorem rise_nodup {l : List Msg} (h : l.Pairwise (fun a b => a.id < b.id)) : (l.map (·.id)).Nodup := by
  rw [List.nodup_iff_pairwise_ne, List.pairwise_map]
  exact h.imp (fun {a b} hab e => by omega)
theorem QRel.sIds (h : QRel σ ms s ti r) : s.map (·.1) = σ.l.map (·.id) := by
  have := congrArg (List.map Prod.fst) h.s
  rw [List.map_map, List.map_map] at this
  exact this
theorem QRel.mKeys (h : QRel σ ms s ti r) : (ms.map (·.1)).Perm (σ.l.map (·.id)) := by
  have := h.ms.map (·.1)
  rw [List.map_map] at this
  exact this
theorem QRel.mNd (h : QRel σ ms s ti r) (hi : QInv σ T) : (ms.map (·.1)).Nodup := h.mKeys.nodup_iff.2 (rise_nodup hi.rise)
/-- What the map tells of a message. -/
theorem QRel.get (h : QRel σ ms s ti r) (hi : QInv σ T) {m : Msg} (hm : m ∈ σ.l) : mget ms m.id = some m.bod :=
  mget_mem (h.mNd hi) (p := (m.id, m.bod)) (h.ms.mem_iff.2 (List.mem_map.2 ⟨m, hm, rfl⟩))
theorem QRel.getNone (h : QRel σ ms s ti r) {id : Int} (hn : ∀ m ∈ σ.l, m.id ≠ id) : mget ms id = none := by
  rw [mget_none]
  intro p hp
  obtain ⟨m, hm, rfl⟩ := List.mem_map.1 (h.ms.mem_iff.1 hp)
  exact hn m hm
theorem QRel.len (h : QRel σ ms s ti r) : ms.length = σ.l.length := by rw [h.ms.length_eq, List.length_map]
theorem QRel.sLen (h : QRel σ ms s ti r) : s.length = σ.l.length := by
  have := congrArg List.length h.sIds
  simpa using this
theorem QRel.tLen (h : QRel σ ms s ti r) : ti.length ≤ σ.l.length := by
  rw [h.ti.length_eq, List.length_map]
  exact List.length_filter_le _ _
theorem QRel.rLen (h : QRel σ ms s ti r) : r.length = σ.k.length := h.r.length_eq
theorem QRel.key (h : QRel σ ms s ti r) (hi : QInv σ T) (key : ByteArray) : mget r key = mget σ.k key := mget_perm hi.knd h.r.symm key
/-- Whether a message is leased, by the timer. -/
theorem QRel.lease (h : QRel σ ms s ti r) (hi : QInv σ T) {m : Msg} (hm : m ∈ σ.l) : (m.leased = true ↔ (m.id, m.till) ∈ ti) ∧ (m.leased = false ↔ ∀ p ∈ ti, p.1 ≠ m.id) := by
  have hmem : ∀ p, p ∈ ti ↔ ∃ x ∈ σ.l, x.leased = true ∧ p = (x.id, x.till) := by
    intro p
    rw [h.ti.mem_iff, List.mem_map]
    constructor
    · rintro ⟨x, hx, rfl⟩
      exact ⟨x, (List.mem_filter.1 hx).1, by simpa using (List.mem_filter.1 hx).2, rfl⟩
    · rintro ⟨x, hx, hl, rfl⟩
      exact ⟨x, List.mem_filter.2 ⟨hx, by simpa using hl⟩, rfl⟩
  have huniq : ∀ x ∈ σ.l, x.id = m.id → x = m := by
    intro x hx e
    have hnd := hi.rise
    have key := List.pairwise_iff_getElem.1 hnd
    obtain ⟨i, hi1, rfl⟩ := List.getElem_of_mem hx
    obtain ⟨j, hj1, rfl⟩ := List.getElem_of_mem hm
    rcases Nat.lt_trichotomy i j with hlt | heq | hgt
    · have := key i j hi1 hj1 hlt; omega
    · subst heq; rfl
    · have := key j i hj1 hi1 hgt; omega
  have h1 : m.leased = true ↔ (m.id, m.till) ∈ ti := by
    rw [hmem]
    constructor
    · intro hl; exact ⟨m, hm, hl, rfl⟩
    · rintro ⟨x, hx, hl, e⟩
      have e1 : m.id = x.id := congrArg Prod.fst e
      rw [huniq x hx e1.symm] at hl
      exact hl
  refine ⟨h1, ?_⟩
  constructor
  · intro hl p hp e
    obtain ⟨x, hx, hxl, rfl⟩ := (hmem p).1 hp
    rw [huniq x hx e] at hxl
    rw [hl] at hxl
    cases hxl
  · intro hno
    cases hl : m.leased with
    | false => rfl
    | true => exact absurd rfl (hno _ (h1.1 hl))
theorem filter_map_s (s : List En) (id : Int) : (lDrop s id).map (fun e => (e.1, e.2.1)) = (s.map (fun e => (e.1, e.2.1))).filter (fun p => decide (p.1 ≠ id)) := by
  unfold lDrop
  rw [List.filter_map]
  rfl
theorem QRel.drop (h : QRel σ ms s ti r) (id : Int) : QRel (qDrop σ id) (mdel ms id) (lDrop s id) (tDrop ti id) r := by
  refine ⟨?_, ?_, ?_, h.r⟩
  · unfold mdel qDrop
    have := h.ms.filter (fun p => decide (p.1 ≠ id))
    rw [List.filter_map] at this
    exact this
  · rw [filter_map_s, h.s, List.filter_map]
    rfl
  · unfold tDrop qDrop
    have := h.ti.filter (fun p => decide (p.1 ≠ id))
    rw [List.filter_map, List.filter_filter] at this
    refine this.trans (List.Perm.of_eq ?_)
    show _ = ((σ.l.filter (fun m => decide (m.id ≠ id))).filter (·.leased)).map _
    rw [List.filter_filter]
    congr 1
    apply List.filter_congr
    intro m _
    simp only [Function.comp]
    rw [Bool.and_comm]
theorem QRel.purge : QRel (qPurge σ) [] [] [] r ↔ r.Perm σ.k := ⟨fun h => h.r, fun h => ⟨List.Perm.refl _, rfl, List.Perm.refl _, h⟩⟩
/-- One message is changed. -/
def qUp (σ : Qs) (id : Int) (f : Msg → Msg) : Qs := { σ with l := σ.l.map (fun m => if m.id = id then f m else m) }
theorem split_at (hi : QInv σ T) {m : Msg} (hm : m ∈ σ.l) : ∃ l1 l2, σ.l = l1 ++ m :: l2 ∧ (∀ x ∈ l1, x.id ≠ m.id) ∧ (∀ x ∈ l2, x.id ≠ m.id) := by
  obtain ⟨l1, l2, e⟩ := List.append_of_mem hm
  have hr := hi.rise
  rw [e, List.pairwise_append, List.pairwise_cons] at hr
  refine ⟨l1, l2, e, fun x hx => ?_, fun x hx => ?_⟩
  · have := hr.2.2 x hx m (List.mem_cons_self ..); omega
  · have := hr.2.1.1 x hx; omega
theorem map_if_none {l : List Msg} {id : Int} {f : Msg → Msg} (h : ∀ x ∈ l, x.id ≠ id) : l.map (fun m => if m.id = id then f m else m) = l := by
  conv => rhs; rw [← List.map_id l]
  apply List.map_congr_left
  intro x hx
  rw [if_neg (h x hx)]
  rfl
theorem filter_ne_all {l : List Msg} {id : Int} (h : ∀ x ∈ l, x.id ≠ id) : l.filter (fun m => decide (m.id ≠ id)) = l := by
  rw [List.filter_eq_self]
  intro x hx
  simpa using h x hx
theorem qUp_split {l1 l2 : List Msg} {m : Msg} {f : Msg → Msg} (e : σ.l = l1 ++ m :: l2) (h1 : ∀ x ∈ l1, x.id ≠ m.id) (h2 : ∀ x ∈ l2, x.id ≠ m.id) : (qUp σ m.id f).l = l1 ++ f m :: l2 := by
  show σ.l.map _ = _
  rw [e, List.map_append, List.map_cons, if_pos rfl, map_if_none h1, map_if_none h2]
theorem qDrop_split {l1 l2 : List Msg} {m : Msg} (e : σ.l = l1 ++ m :: l2) (h1 : ∀ x ∈ l1, x.id ≠ m.id) (h2 : ∀ x ∈ l2, x.id ≠ m.id) : (qDrop σ m.id).l = l1 ++ l2 := by
  show σ.l.filter _ = _
  rw [e, List.filter_append, List.filter_cons, if_neg (by simp), filter_ne_all h1, filter_ne_all h2]
theorem QRel.up (h : QRel σ ms s ti r) (hi : QInv σ T) {m : Msg} (hm : m ∈ σ.l) {f : Msg → Msg} (hid : (f m).id = m.id) (hg : (f m).group = m.group) :
    QRel (qUp σ m.id f) (mput ms m.id (f m).bod) s (if (f m).leased then tSet ti m.id (f m).till else tDrop ti m.id) r := by
  obtain ⟨l1, l2, e, h1, h2⟩ := split_at hi hm
  have hu := qUp_split (f := f) e h1 h2
  have hd := h.drop m.id
  have hq := qDrop_split e h1 h2
  refine ⟨?_, ?_, ?_, h.r⟩
  · rw [hu]
    unfold mput
    refine (hd.ms.cons _).trans ?_
    rw [hq, List.map_append, List.map_append, List.map_cons, hid]
    exact List.perm_middle.symm
  · rw [hu, h.s, e, List.map_append, List.map_append, List.map_cons, List.map_cons, hid, hg]
  · rw [hu, List.filter_append, List.filter_cons]
    have ht := hd.ti
    rw [hq, List.filter_append, List.map_append] at ht
    split
    · unfold tSet
      refine (tIns_perm _ _).trans ((ht.cons _).trans ?_)
      rw [List.map_append, List.map_cons, hid]
      exact List.perm_middle.symm
    · rw [List.map_append]
      exact ht
theorem QRel.newId (h : QRel σ ms s ti r) (hi : QInv σ T) : hasEn s σ.next = false := by
  unfold hasEn
  rw [List.any_eq_false]
  intro p hp
  have hmem : p.1 ∈ s.map (·.1) := List.mem_map_of_mem hp
  rw [h.sIds] at hmem
  obtain ⟨m, hm, e⟩ := List.mem_map.1 hmem
  have := hi.ids m hm
  have hne : p.1 ≠ σ.next := by omega
  simpa using hne
theorem QRel.sent (h : QRel σ ms s ti r) (hi : QInv σ T) {body group key : ByteArray} {delay t : Int} (hk : mget σ.k key = none) :
    QRel (qSent σ body group key delay) (mput ms σ.next (body, (group, (σ.now, (0, σ.now + (if delay < 0 then σ.a.del else delay)))))) (s ++ [(σ.next, (group, t))]) ti (if qKnows σ.a key then ldPut r key (σ.next, σ.now + σ.a.win) else r) := by
  have hno : ∀ m ∈ σ.l, m.id ≠ σ.next := fun m hm e => by have := hi.ids m hm; omega
  refine ⟨?_, ?_, ?_, ?_⟩
  · unfold mput
    rw [mdel_none (h.getNone hno)]
    refine (h.ms.cons _).trans ?_
    unfold qSent
    rw [List.map_append]
    exact (List.perm_append_comm (l₁ := [_])).trans (List.Perm.of_eq rfl)
  · unfold qSent
    rw [List.map_append, List.map_append, h.s]
    rfl
  · unfold qSent
    rw [List.filter_append]
    simp only [List.filter_cons, List.filter_nil, Bool.false_eq_true, if_false, List.append_nil]
    exact h.ti
  · unfold qSent
    by_cases hkn : qKnows σ.a key = true
    · rw [if_pos hkn]
      simp only [hkn, if_true]
      refine (put_perm r key _).symm.trans ?_
      unfold mput
      rw [mdel_none (by rw [h.key hi]; exact hk)]
      exact (h.r.cons _).trans (List.perm_append_comm (l₁ := [_]))
    · rw [if_neg hkn]
      simp only [hkn]
      exact h.r
end
end Go.Proofs.YtipdleiginnjmaaGreatDoor
namespace Go.Proofs.YtipdleiginnjmaaGreatDoor

def Msg.rest (m : Msg) (now : Int) : Msg := if m.over now then { m with leased := false, till := 0 } else m
/-- Time goes on; what is leased no longer stands as it was. -/
def qLapsed (σ : Qs) (now : Int) : Qs := { σ with now := now, l := σ.l.map (fun m => m.rest now) }
section
variable {σ : Qs} {T : Nat} {ms : List (Int × Bod)} {s : List En} {ti : List It} {r : List (Ent Int)} {now : Int}
theorem rest_id (m : Msg) : (m.rest now).id = m.id := by unfold Msg.rest; split <;> rfl
theorem rest_group (m : Msg) : (m.rest now).group = m.group := by unfold Msg.rest; split <;> rfl
theorem rest_bod (m : Msg) : (m.rest now).bod = m.bod := by unfold Msg.rest; split <;> rfl
theorem rest_leased (m : Msg) : (m.rest now).leased = (m.leased && !m.over now) := by
  unfold Msg.rest Msg.over
  split
  · rename_i h; rw [h]; simp
  · rename_i h
    cases hl : m.leased
    · rfl
    · rw [hl] at h
      simp at h
      simp [h]
theorem rest_till (m : Msg) (h : m.over now = false) : (m.rest now).till = m.till := by unfold Msg.rest; rw [h]; rfl
theorem due_while {s : List It} (h : s.Pairwise tLt) (now : Int) : s.takeWhile (fun p => decide (p.2 ≤ now)) = s.filter (fun p => decide (p.2 ≤ now)) ∧ s.dropWhile (fun p => decide (p.2 ≤ now)) = s.filter (fun p => decide (now < p.2)) := by
  induction s with
  | nil => exact ⟨rfl, rfl⟩
  | cons p s ih =>
    rw [List.pairwise_cons] at h
    obtain ⟨i1, i2⟩ := ih h.2
    rw [List.takeWhile_cons, List.dropWhile_cons, List.filter_cons, List.filter_cons]
    by_cases hp : p.2 ≤ now
    · have hq : ¬ now < p.2 := by omega
      simp only [hp, hq, decide_true, decide_false, if_true, Bool.false_eq_true, if_false]
      exact ⟨by rw [i1], i2⟩
    · have hq : now < p.2 := by omega
      have hle : ∀ q ∈ s, p.2 ≤ q.2 := fun q hq => by
        have := h.1 q hq
        unfold tLt at this
        omega
      simp only [hp, hq, decide_true, decide_false, if_true, Bool.false_eq_true, if_false]
      constructor
      · symm
        rw [List.filter_eq_nil_iff]
        intro q hq
        have := hle q hq
        simp
        omega
      · congr 1
        symm
        rw [List.filter_eq_self]
        intro q hq
        have := hle q hq
        simp
        omega
theorem QInv.lapsed (h : QInv σ T) (hn : qMay σ now = true) : QInv (qLapsed σ now) T := by
  unfold qMay at hn
  rw [decide_eq_true_iff] at hn
  have hnow := h.now
  have hm : QInv { σ with l := σ.l.map (fun m => m.rest now) } T := h.map (fun m hm => by
    have h1 := h.cnt m hm
    have h2 := h.at_ m hm
    have h3 := h.till m hm
    unfold Msg.rest
    split
    · exact ⟨rfl, h1, rfl, h2, (show (0 : Int) ≤ 0 ∧ (0 : Int) ≤ 2199023255552 by omega), rfl, rfl⟩
    · exact ⟨rfl, h1, rfl, h2, h3, rfl, rfl⟩)
  exact { hm with now := ⟨by show 0 ≤ now; omega, hn.2⟩ }
theorem QRel.lapsed (h : QRel σ ms s ti r) (hrow : ti.Pairwise tLt) : QRel (qLapsed σ now) ms s (ti.dropWhile (fun p => decide (p.2 ≤ now))) r := by
  refine ⟨?_, ?_, ?_, h.r⟩
  · refine h.ms.trans (List.Perm.of_eq ?_)
    show _ = (σ.l.map _).map _
    rw [List.map_map]
    apply List.map_congr_left
    intro m _
    simp only [Function.comp, rest_id, rest_bod]
  · rw [h.s]
    show _ = (σ.l.map _).map _
    rw [List.map_map]
    apply List.map_congr_left
    intro m _
    simp only [Function.comp, rest_id, rest_group]
  · rw [(due_while hrow now).2]
    refine (h.ti.filter _).trans (List.Perm.of_eq ?_)
    show _ = ((σ.l.map _).filter _).map _
    rw [List.filter_map, List.filter_map, List.map_map, List.filter_filter]
    have hf : σ.l.filter ((fun m => m.leased) ∘ (fun m => m.rest now)) = σ.l.filter (fun a => ((fun p : It => decide (now < p.2)) ∘ fun m => (m.id, m.till)) a && a.leased) := by
      apply List.filter_congr
      intro m _
      simp only [Function.comp, rest_leased]
      unfold Msg.over
      cases hl : m.leased
      · simp
      · by_cases ht : m.till ≤ now
        · have : ¬ now < m.till := by omega
          simp [ht, this]
        · have : now < m.till := by omega
          simp [ht, this]
    rw [hf]
    apply List.map_congr_left
    intro m hm
    have hm2 := (List.mem_filter.1 hm).2
    rw [Bool.and_eq_true] at hm2
    have ht : now < m.till := by simpa [Function.comp] using hm2.1
    have ho : m.over now = false := by
      unfold Msg.over
      rw [decide_eq_false (by omega), Bool.and_false]
    simp only [Function.comp, rest_id, rest_till m ho]
/-- The numbers of what is due, in order. -/
theorem due_ids (h : QRel σ ms s ti r) (hrow : ti.Pairwise tLt) (hi : QInv σ T) {ids : List Int} (hp : ids.Perm ((ti.takeWhile (fun p => decide (p.2 ≤ now))).map (·.1))) (hs : ids.Pairwise (· ≤ ·)) : ids = (σ.l.filter (fun m => m.over now)).map (·.id) := by
  refine List.Perm.eq_of_pairwise (le := (· ≤ ·)) (fun a b _ _ h1 h2 => by omega) hs ?_ ?_
  · rw [List.pairwise_map]
    exact (hi.rise.filter _).imp (fun {a b} hab => by omega)
  · refine hp.trans ?_
    rw [(due_while hrow now).1]
    refine ((h.ti.filter _).map _).trans (List.Perm.of_eq ?_)
    rw [List.filter_map, List.map_map, List.filter_filter]
    have : σ.l.filter (fun a => ((fun p : It => decide (p.2 ≤ now)) ∘ fun m => (m.id, m.till)) a && a.leased) = σ.l.filter (fun m => m.over now) := by
      apply List.filter_congr
      intro m _
      unfold Msg.over
      simp only [Function.comp]
      rw [Bool.and_comm]
    rw [this]
    rfl
/-- What stands when some of what ended has gone, or waits. -/
def endRow (σ : Qs) (now : Int) (ds : List Int) : List Msg := (σ.l.filter (fun m => !(decide (m.id ∈ ds) && m.dies σ.a now))).map (fun m => if m.id ∈ ds then m.lapse now else m.rest now)
def qEnded (σ : Qs) (now : Int) (ds : List Int) : Qs := { σ with now := now, l := endRow σ now ds }
theorem ended_nil : qEnded σ now [] = qLapsed σ now := by
  unfold qEnded qLapsed endRow
  rw [show σ.l.filter (fun m => !(decide (m.id ∈ ([] : List Int)) && m.dies σ.a now)) = σ.l from List.filter_eq_self.2 (by simp)]
  simp
theorem dies_over {m : Msg} {a : QA} (h : m.dies a now = true) : m.over now = true := by
  unfold Msg.dies at h
  rw [Bool.and_eq_true] at h
  exact h.1
theorem ended_drop {ds : List Int} {m : Msg} (hi : QInv σ T) (hm : m ∈ σ.l) (hn : m.id ∉ ds) (hd : m.dies σ.a now = true) : qEnded σ now (ds ++ [m.id]) = qDrop (qEnded σ now ds) m.id := by
  unfold qEnded qDrop endRow
  congr 1
  show _ = ((σ.l.filter _).map _).filter _
  rw [List.filter_map, List.filter_filter]
  have huniq : ∀ x ∈ σ.l, x.id = m.id → x = m := fun x hx e => by
    obtain ⟨l1, l2, e2, h1, h2⟩ := split_at hi hm
    rw [e2] at hx
    rcases List.mem_append.1 hx with hx | hx
    · exact absurd e (h1 x hx)
    · rcases List.mem_cons.1 hx with hx | hx
      · exact hx
      · exact absurd e (h2 x hx)
  have hf : σ.l.filter (fun x => !(decide (x.id ∈ ds ++ [m.id]) && x.dies σ.a now)) = σ.l.filter (fun a => ((fun x : Msg => decide (x.id ≠ m.id)) ∘ (fun x => if x.id ∈ ds then x.lapse now else x.rest now)) a && !(decide (a.id ∈ ds) && a.dies σ.a now)) := by
    apply List.filter_congr
    intro x hx
    have hid : (if x.id ∈ ds then x.lapse now else x.rest now).id = x.id := by
      split
      · exact lapse_id x now
      · exact rest_id x
    simp only [Function.comp, hid]
    by_cases e : x.id = m.id
    · rw [huniq x hx e]
      simp [hd]
    · have : (x.id ∈ ds ++ [m.id]) ↔ x.id ∈ ds := by simp [e]
      simp [e]
  rw [hf]
  apply List.map_congr_left
  intro x hx
  have hx2 := (List.mem_filter.1 hx).2
  have hid : (if x.id ∈ ds then x.lapse now else x.rest now).id = x.id := by
    split
    · exact lapse_id x now
    · exact rest_id x
  simp only [Function.comp, hid] at hx2
  have e : x.id ≠ m.id := by
    intro e
    rw [e] at hx2
    simp at hx2
  have : (x.id ∈ ds ++ [m.id]) ↔ x.id ∈ ds := by simp [e]
  simp only [this]
theorem ended_wait {ds : List Int} {m : Msg} (hi : QInv σ T) (hm : m ∈ σ.l) (hn : m.id ∉ ds) (ho : m.over now = true) (hd : m.dies σ.a now = false) : qEnded σ now (ds ++ [m.id]) = qUp (qEnded σ now ds) m.id (fun x => { x with at_ := now }) := by
  unfold qEnded qUp endRow
  congr 1
  show _ = ((σ.l.filter _).map _).map _
  rw [List.map_map]
  have huniq : ∀ x ∈ σ.l, x.id = m.id → x = m := fun x hx e => by
    obtain ⟨l1, l2, e2, h1, h2⟩ := split_at hi hm
    rw [e2] at hx
    rcases List.mem_append.1 hx with hx | hx
    · exact absurd e (h1 x hx)
    · rcases List.mem_cons.1 hx with hx | hx
      · exact hx
      · exact absurd e (h2 x hx)
  have hf : σ.l.filter (fun x => !(decide (x.id ∈ ds ++ [m.id]) && x.dies σ.a now)) = σ.l.filter (fun x => !(decide (x.id ∈ ds) && x.dies σ.a now)) := by
    apply List.filter_congr
    intro x hx
    by_cases e : x.id = m.id
    · rw [huniq x hx e]
      simp [hd]
    · simp [e]
  rw [hf]
  apply List.map_congr_left
  intro x hx
  have hid : (if x.id ∈ ds then x.lapse now else x.rest now).id = x.id := by
    split
    · exact lapse_id x now
    · exact rest_id x
  simp only [Function.comp, hid]
  by_cases e : x.id = m.id
  · have hxm := huniq x (List.mem_filter.1 hx).1 e
    subst hxm
    rw [if_pos (by simp), if_neg hn, if_pos rfl]
    unfold Msg.lapse Msg.rest
    have ho2 : (x.leased && decide (x.till ≤ now)) = true := ho
    rw [if_pos ho2, if_pos ho]
  · rw [if_neg e]
    have : (x.id ∈ ds ++ [m.id]) ↔ x.id ∈ ds := by simp [e]
    simp only [this]
theorem uniq_at (hi : QInv σ T) {m : Msg} (hm : m ∈ σ.l) : ∀ x ∈ σ.l, x.id = m.id → x = m := fun x hx e => by
  obtain ⟨l1, l2, e2, h1, h2⟩ := split_at hi hm
  rw [e2] at hx
  rcases List.mem_append.1 hx with hx | hx
  · exact absurd e (h1 x hx)
  · rcases List.mem_cons.1 hx with hx | hx
    · exact hx
    · exact absurd e (h2 x hx)
/-- When all that ended went through. -/
theorem ended_all (hi : QInv σ T) : endRow σ now ((σ.l.filter (fun m => m.over now)).map (·.id)) = (σ.l.filter (fun m => !m.dies σ.a now)).map (fun m => m.lapse now) := by
  have hin : ∀ x ∈ σ.l, (x.id ∈ (σ.l.filter (fun m => m.over now)).map (·.id)) ↔ x.over now = true := by
    intro x hx
    constructor
    · intro h
      obtain ⟨y, hy, e⟩ := List.mem_map.1 h
      obtain ⟨hy1, hy2⟩ := List.mem_filter.1 hy
      rw [← uniq_at hi hx y hy1 e]
      exact hy2
    · intro h
      exact List.mem_map.2 ⟨x, List.mem_filter.2 ⟨hx, h⟩, rfl⟩
  unfold endRow
  have hf : σ.l.filter (fun m => !(decide (m.id ∈ (σ.l.filter (fun m => m.over now)).map (·.id)) && m.dies σ.a now)) = σ.l.filter (fun m => !m.dies σ.a now) := by
    apply List.filter_congr
    intro x hx
    cases hd : x.dies σ.a now with
    | false => simp
    | true => rw [decide_eq_true ((hin x hx).2 (dies_over hd))]; rfl
  rw [hf]
  apply List.map_congr_left
  intro x hx
  have hx1 := (List.mem_filter.1 hx).1
  by_cases ho : x.over now = true
  · rw [if_pos ((hin x hx1).2 ho)]
  · rw [if_neg (fun h => ho ((hin x hx1).1 h))]
    unfold Msg.rest Msg.lapse
    rw [if_neg ho]
    have ho2 : ¬ (x.leased && decide (x.till ≤ now)) = true := ho
    rw [if_neg ho2]
/-- What stands when some of what is too old went. -/
def goneRow (l : List Msg) (a : QA) (now : Int) (gs : List Int) : List Msg := l.filter (fun m => !(decide (m.id ∈ gs) && decide (m.sent + a.ret ≤ now)))
theorem gone_nil (l : List Msg) (a : QA) : goneRow l a now [] = l := by unfold goneRow; simp
theorem gone_step {l : List Msg} {a : QA} {gs : List Int} {m : Msg} (hu : ∀ x ∈ l, x.id = m.id → x = m) : goneRow l a now (gs ++ [m.id]) = if m.sent + a.ret ≤ now then (goneRow l a now gs).filter (fun x => decide (x.id ≠ m.id)) else goneRow l a now gs := by
  unfold goneRow
  split
  · rename_i h
    rw [List.filter_filter]
    apply List.filter_congr
    intro x hx
    by_cases e : x.id = m.id
    · rw [hu x hx e]; simp [h]
    · simp [e]
  · rename_i h
    apply List.filter_congr
    intro x hx
    by_cases e : x.id = m.id
    · rw [hu x hx e]; simp [h]
    · simp [e]
theorem gone_all (l : List Msg) (a : QA) : goneRow l a now (l.map (·.id)) = l.filter (fun m => !decide (m.sent + a.ret ≤ now)) := by
  unfold goneRow
  apply List.filter_congr
  intro x hx
  rw [decide_eq_true (List.mem_map_of_mem hx), Bool.true_and]
theorem lapse_sent (m : Msg) : (m.lapse now).sent = m.sent := by unfold Msg.lapse; split <;> rfl
/-- The two loops, one behind the other, leave what the law says. -/
theorem tick_row : ((σ.l.filter (fun m => !m.dies σ.a now)).map (fun m => m.lapse now)).filter (fun m => !decide (m.sent + σ.a.ret ≤ now)) = (qTick σ now).l := by
  show _ = (σ.l.filter _).map _
  rw [List.filter_map, List.filter_filter]
  congr 1
  apply List.filter_congr
  intro m _
  simp only [Function.comp, lapse_sent]
  unfold Msg.stays
  rw [Bool.and_comm]
theorem tick_gone : (((σ.l.filter (fun m => !m.dies σ.a now)).map (fun m => m.lapse now)).filter (fun m => decide (m.sent + σ.a.ret ≤ now))).map (·.id) = qGone σ now := by
  unfold qGone
  rw [List.filter_map, List.filter_filter, List.map_map]
  have : σ.l.filter (fun a => ((fun m : Msg => decide (m.sent + σ.a.ret ≤ now)) ∘ fun m => m.lapse now) a && !a.dies σ.a now) = σ.l.filter (fun m => m.goes σ.a now) := by
    apply List.filter_congr
    intro m _
    simp only [Function.comp, lapse_sent]
    unfold Msg.goes
    rw [Bool.and_comm]
  rw [this]
  apply List.map_congr_left
  intro m _
  simp only [Function.comp, lapse_id]
end
end Go.Proofs.YtipdleiginnjmaaGreatDoor
namespace Go.Proofs.YtipdleiginnjmaaGreatDoor

def digVal (l : List UInt8) : Nat := l.foldl (fun a c => 10 * a + (c.toNat - 48)) 0
theorem digVal_snoc (l : List UInt8) (c : UInt8) : digVal (l ++ [c]) = 10 * digVal l + (c.toNat - 48) := by
  unfold digVal
  rw [List.foldl_append]
  rfl
theorem dig_nat (u : Nat) (h : u < 10) : (UInt8.ofNat (48 + u)).toNat = 48 + u := by
  rw [UInt8.toNat_ofNat']
  omega
theorem digVal_dec (u : Nat) : digVal (Lib.decDigits u) = u := by
  induction u using Nat.strongRecOn with
  | _ u ih =>
    rw [Lib.decDigits]
    split
    · rename_i h
      unfold digVal
      rw [List.foldl_cons, List.foldl_nil, dig_nat u h]
      omega
    · rename_i h
      rw [digVal_snoc, ih (u / 10) (by omega), dig_nat _ (by omega)]
      omega
theorem dec_no_point (u : Nat) : (46 : UInt8) ∉ Lib.decDigits u := by
  induction u using Nat.strongRecOn with
  | _ u ih =>
    rw [Lib.decDigits]
    split
    · rename_i h
      intro hm
      have := congrArg UInt8.toNat (List.mem_singleton.1 hm)
      rw [dig_nat u h] at this
      have : (46 : UInt8).toNat = 48 + u := this
      rw [show (46 : UInt8).toNat = 46 from rfl] at this
      omega
    · rename_i h
      intro hm
      rcases List.mem_append.1 hm with hm | hm
      · exact ih (u / 10) (by omega) hm
      · have := congrArg UInt8.toNat (List.mem_singleton.1 hm)
        rw [dig_nat _ (by omega)] at this
        have : (46 : UInt8).toNat = 48 + u % 10 := this
        rw [show (46 : UInt8).toNat = 46 from rfl] at this
        omega
theorem split_point : ∀ {a c b d : List UInt8}, (46 : UInt8) ∉ a → (46 : UInt8) ∉ c → a ++ 46 :: b = c ++ 46 :: d → a = c ∧ b = d
  | [], [], _, _, _, _, h => ⟨rfl, by simpa using h⟩
  | [], y :: c, _, _, _, hc, h => by
    injection h with h1 h2
    exact absurd (h1 ▸ List.mem_cons_self ..) hc
  | x :: a, [], _, _, ha, _, h => by
    injection h with h1 h2
    exact absurd (h1.symm ▸ List.mem_cons_self ..) ha
  | x :: a, y :: c, _, _, ha, hc, h => by
    injection h with h1 h2
    obtain ⟨e1, e2⟩ := split_point (fun hm => ha (List.mem_cons_of_mem _ hm)) (fun hm => hc (List.mem_cons_of_mem _ hm)) h2
    exact ⟨by rw [h1, e1], e2⟩
/-- What a message is leased by. -/
def receipt (id count : Int) : ByteArray := ⟨(Lib.decDigits id.toNat ++ 46 :: Lib.decDigits count.toNat).toArray⟩
theorem receipt_inj {i c j d : Int} (hi : 0 ≤ i) (hc : 0 ≤ c) (hj : 0 ≤ j) (hd : 0 ≤ d) (h : receipt i c = receipt j d) : i = j ∧ c = d := by
  unfold receipt at h
  injection h with h
  have h := congrArg Array.toList h
  simp only [List.toList_toArray] at h
  obtain ⟨h1, h2⟩ := split_point (dec_no_point _) (dec_no_point _) h
  have e1 := congrArg digVal h1
  have e2 := congrArg digVal h2
  rw [digVal_dec, digVal_dec] at e1 e2
  omega
def Msg.slip (m : Msg) : ByteArray := receipt m.id m.count
/-- The message that is leased by a receipt. -/
def qBy (σ : Qs) (s : ByteArray) : Option Msg := σ.l.find? (fun m => m.leased && decide (m.slip = s))
section
variable {σ : Qs} {T : Nat}
theorem slip_inj (hi : QInv σ T) {m x : Msg} (hm : m ∈ σ.l) (hx : x ∈ σ.l) (h : m.slip = x.slip) : m = x := by
  have h1 := hi.ids m hm
  have h2 := hi.ids x hx
  have h3 := hi.cnt m hm
  have h4 := hi.cnt x hx
  obtain ⟨e, _⟩ := receipt_inj (by omega) h3.1 (by omega) h4.1 h
  exact uniq_at hi hx m hm e
theorem qBy_some {s : ByteArray} {m : Msg} (h : qBy σ s = some m) : m ∈ σ.l ∧ m.leased = true ∧ m.slip = s := by
  unfold qBy at h
  have h1 := List.mem_of_find?_eq_some h
  have h2 := List.find?_some h
  rw [Bool.and_eq_true, decide_eq_true_iff] at h2
  exact ⟨h1, h2⟩
theorem qBy_of (hi : QInv σ T) {m : Msg} (hm : m ∈ σ.l) (hl : m.leased = true) : qBy σ m.slip = some m := by
  cases h : qBy σ m.slip with
  | none =>
    unfold qBy at h
    have := List.find?_eq_none.1 h m hm
    simp [hl] at this
  | some x =>
    obtain ⟨h1, h2, h3⟩ := qBy_some h
    rw [slip_inj hi h1 hm h3]
theorem qBy_none {s : ByteArray} (h : ∀ m ∈ σ.l, m.leased = true → m.slip ≠ s) : qBy σ s = none := by
  unfold qBy
  rw [List.find?_eq_none]
  intro m hm
  rw [Bool.and_eq_true, decide_eq_true_iff]
  rintro ⟨h1, h2⟩
  exact h m hm h1 h2
end
/-- An Ack: what it leaves, the number, the error. -/
def qAck (σ : Qs) (s : ByteArray) : Qs × (Int × Int) :=
  match qBy σ s with
  | some m => (qDrop σ m.id, (m.id, 0))
  | none => (σ, (0, 8))
/-- An Extend: what it leaves, the error. -/
def qExt (σ : Qs) (s : ByteArray) (vis : Int) : Qs × Int :=
  if 0 ≤ vis ∧ vis ≤ 1048576 then
    match qBy σ s with
    | some m => (if 0 < vis then qLast σ m.id (σ.now + vis) else qEnd σ m.id, 0)
    | none => (σ, 8)
  else (σ, 1)
/-- A message that was received, as it is told: number, count, receipt, body, group. -/
abbrev Tk := Int × (Int × (ByteArray × (ByteArray × ByteArray)))
def Msg.tk (m : Msg) : Tk := (m.id, (m.count + 1, (receipt m.id (m.count + 1), (m.body, m.group))))
/-- A letter: number, count, body, group. -/
abbrev Lt := Int × (Int × (ByteArray × ByteArray))
def Msg.lt (m : Msg) : Lt := (m.id, (m.count, (m.body, m.group)))
/-- A Receive: what it leaves, what is told, the error. -/
def qRcv (σ : Qs) (n vis : Int) : Qs × (List Tk × Int) :=
  if qMayRecv n vis then (qRecv σ n.toNat (if vis = 0 then σ.a.vis else vis), ((qTook σ n.toNat).map Msg.tk, 0)) else (σ, ([], 1))
/-- A Tick: what it leaves, the letters, what is gone. -/
def qTck (σ : Qs) (now : Int) : Qs × (List Lt × List Int) :=
  if qMay σ now then (qTick σ now, ((qDead σ now).map Msg.lt, qGone σ now)) else (σ, ([], []))
/-- A Set's error. -/
def qSetE (σ : Qs) (a : QA) : Int := if qRight a && (a.fifo == σ.a.fifo) then 0 else 1
section
variable {σ : Qs} {T : Nat}
theorem QInv.ack (h : QInv σ T) (s : ByteArray) : QInv (qAck σ s).1 T := by
  unfold qAck
  cases qBy σ s with
  | some m => exact h.drop m.id
  | none => exact h
theorem QInv.ext (h : QInv σ T) (s : ByteArray) (vis : Int) : QInv (qExt σ s vis).1 T := by
  have hn := h.now
  unfold qExt
  split
  · cases qBy σ s with
    | some m =>
      dsimp only
      split
      · exact h.last m.id (by omega)
      · exact h.endNow m.id
    | none => exact h
  · exact h
theorem QInv.rcv (h : QInv σ T) (n vis : Int) : QInv (qRcv σ n vis).1 (T + 1) := by
  have hr := h.right
  unfold qRight at hr
  rw [decide_eq_true_iff] at hr
  unfold qRcv
  split
  · rename_i hm
    unfold qMayRecv at hm
    rw [decide_eq_true_iff] at hm
    refine h.recv n.toNat ?_
    split <;> omega
  · exact h.mono (Nat.le_succ T)
theorem QInv.tck (h : QInv σ T) (now : Int) : QInv (qTck σ now).1 T := by
  unfold qTck
  split
  · rename_i hm; exact h.tick hm
  · exact h
end
end Go.Proofs.YtipdleiginnjmaaGreatDoor
namespace Go.Proofs.YtipdleiginnjmaaGreatDoor

section
variable {α β : Type}
/-- What some of the first i give. -/
def fm (l : List α) (p : α → Bool) (f : α → β) (i : Nat) : List β := ((l.take i).filter p).map f
variable {l : List α} {p : α → Bool} {f : α → β} {i : Nat} {m : α}
theorem take_snoc' (h : l[i]? = some m) : l.take (i + 1) = l.take i ++ [m] := by rw [List.take_add_one, h]; rfl
theorem fm_zero : fm l p f 0 = [] := by unfold fm; rw [List.take_zero]; rfl
theorem fm_yes (h : l[i]? = some m) (hp : p m = true) : fm l p f (i + 1) = fm l p f i ++ [f m] := by
  unfold fm
  rw [take_snoc' h, List.filter_append, List.map_append, List.filter_cons, if_pos hp]
  rfl
theorem fm_no (h : l[i]? = some m) (hp : p m = false) : fm l p f (i + 1) = fm l p f i := by
  unfold fm
  rw [take_snoc' h, List.filter_append, List.map_append, List.filter_cons, if_neg (by simp [hp])]
  simp
theorem fm_all (h : l.length ≤ i) : fm l p f i = (l.filter p).map f := by unfold fm; rw [List.take_of_length_le h]
theorem fm_len : (fm l p f i).length ≤ i := by
  unfold fm
  rw [List.length_map]
  exact Nat.le_trans (List.length_filter_le _ _) (by rw [List.length_take]; omega)
theorem mem_at (h : l[i]? = some m) : m ∈ l := List.mem_of_getElem? h
end

/-- A message as the document has it: number, sent, count, time, leased, body, group. -/
abbrev Dm := Int × (Int × (Int × (Int × (Bool × (ByteArray × ByteArray)))))
def Msg.doc (m : Msg) : Dm := (m.id, (m.sent, (m.count, (m.time, (m.leased, (m.body, m.group))))))
def qRdy (σ : Qs) (m : Msg) : Bool := !m.leased && decide (m.at_ ≤ σ.now) && (!σ.a.fifo || qFirst σ.l m)
theorem qReady_eq (σ : Qs) : qReady σ = σ.l.filter (qRdy σ) := rfl
/-- Some are received. -/
def qRecvs (σ : Qs) (ds : List Msg) (till : Int) : Qs := { σ with l := σ.l.map (fun m => if ds.any (fun x => decide (x.id = m.id)) then m.take till else m) }
theorem qRecv_eq (σ : Qs) (n : Nat) (vis : Int) : qRecv σ n vis = qRecvs σ (qTook σ n) (σ.now + vis) := rfl
theorem qRecvs_nil (σ : Qs) (till : Int) : qRecvs σ [] till = σ := by
  unfold qRecvs
  simp
section
variable {σ : Qs} {T : Nat}
theorem any_id {ds : List Msg} {id : Int} : ds.any (fun x => decide (x.id = id)) = true ↔ ∃ x ∈ ds, x.id = id := by simp
theorem take_id (m : Msg) (till : Int) : (m.take till).id = m.id := rfl
theorem qRecvs_snoc (hi : QInv σ T) {ds : List Msg} {m : Msg} {till : Int} (hm : m ∈ σ.l) (hn : ∀ x ∈ ds, x.id ≠ m.id) :
    qRecvs σ (ds ++ [m]) till = qUp (qRecvs σ ds till) m.id (fun x => x.take till) := by
  unfold qRecvs qUp
  congr 1
  show _ = (σ.l.map _).map _
  rw [List.map_map]
  apply List.map_congr_left
  intro x hx
  simp only [Function.comp, List.any_append, List.any_cons, List.any_nil, Bool.or_false]
  by_cases e : x.id = m.id
  · obtain rfl := uniq_at hi hm x hx e
    have h0 : ds.any (fun y => decide (y.id = x.id)) = false := by
      rw [List.any_eq_false]
      intro y hy
      simpa using hn y hy
    rw [h0]
    simp
  · have e' : ¬ m.id = x.id := fun h => e h.symm
    by_cases h1 : ds.any (fun y => decide (y.id = x.id)) = true
    · rw [h1]
      simp [take_id, e]
    · have h1 : ds.any (fun y => decide (y.id = x.id)) = false := by simpa using h1
      rw [h1]
      simp [e, e']
/-- One that was not received is there as it was. -/
theorem qRecvs_mem {ds : List Msg} {m : Msg} {till : Int} (hm : m ∈ σ.l) (hn : ∀ x ∈ ds, x.id ≠ m.id) : m ∈ (qRecvs σ ds till).l := by
  refine List.mem_map.2 ⟨m, hm, ?_⟩
  have h0 : ds.any (fun y => decide (y.id = m.id)) = false := by
    rw [List.any_eq_false]
    intro y hy
    simpa using hn y hy
  rw [h0]
  rfl
theorem rdy_nodup (hi : QInv σ T) : ((qReady σ).map (·.id)).Nodup := by
  rw [qReady_eq]
  exact rise_nodup (hi.rise.filter _)
/-- Where a row's rest has no more to give: what is received, and what stands. -/
theorem recv_at (hi : QInv σ T) {i n : Nat} {vis : Int} (hn : ((σ.l.take i).filter (qRdy σ)).length = n ∨ (σ.l.length ≤ i ∧ ((σ.l.take i).filter (qRdy σ)).length ≤ n)) :
    qTook σ n = (σ.l.take i).filter (qRdy σ) ∧ (qRecv σ n vis).l = (σ.l.take i).map (fun m => if qRdy σ m then m.take (σ.now + vis) else m) ++ σ.l.drop i := by
  have hsp : σ.l.filter (qRdy σ) = (σ.l.take i).filter (qRdy σ) ++ (σ.l.drop i).filter (qRdy σ) := by rw [← List.filter_append, List.take_append_drop]
  have h1 : qTook σ n = (σ.l.take i).filter (qRdy σ) := by
    unfold qTook
    rw [qReady_eq, hsp]
    rcases hn with hn | ⟨hn, hn2⟩
    · rw [List.take_append_of_le_length (by omega), List.take_of_length_le (by omega)]
    · rw [List.drop_eq_nil_of_le hn, List.filter_nil, List.append_nil, List.take_of_length_le hn2]
  refine ⟨h1, ?_⟩
  show σ.l.map _ = _
  rw [h1]
  refine (congrArg (List.map _) (List.take_append_drop i σ.l).symm).trans ?_
  rw [List.map_append]
  have hr := hi.rise
  rw [← List.take_append_drop i σ.l, List.pairwise_append] at hr
  congr 1
  · apply List.map_congr_left
    intro m hm
    by_cases h : qRdy σ m = true
    · rw [if_pos h, if_pos (any_id.2 ⟨m, List.mem_filter.2 ⟨hm, h⟩, rfl⟩)]
    · rw [if_neg h, if_neg]
      intro ha
      obtain ⟨x, hx, e⟩ := any_id.1 ha
      obtain ⟨hx1, hx2⟩ := List.mem_filter.1 hx
      have := uniq_at hi (List.mem_of_mem_take hm) x (List.mem_of_mem_take hx1) e
      exact h (this ▸ hx2)
  · conv => rhs; rw [← List.map_id (σ.l.drop i)]
    apply List.map_congr_left
    intro m hm
    rw [if_neg]
    · rfl
    · intro ha
      obtain ⟨x, hx, e⟩ := any_id.1 ha
      have := hr.2.2 x (List.mem_filter.1 hx).1 m hm
      omega
/-- All go, one by one. -/
theorem drop_head (hi : QInv σ T) {j : Nat} {m : Msg} (h : σ.l[j]? = some m) : qDrop { σ with l := σ.l.drop j } m.id = { σ with l := σ.l.drop (j + 1) } := by
  unfold qDrop
  congr 1
  show (σ.l.drop j).filter _ = _
  have hj : j < σ.l.length := (List.getElem?_eq_some_iff.1 h).1
  have hm : σ.l[j] = m := (List.getElem?_eq_some_iff.1 h).2
  have hr := hi.rise
  rw [← List.take_append_drop j σ.l, List.pairwise_append] at hr
  have hr := hr.2.1
  rw [List.drop_eq_getElem_cons hj, hm] at hr ⊢
  rw [List.pairwise_cons] at hr
  rw [List.filter_cons, if_neg (by simp), List.filter_eq_self]
  intro x hx
  have := hr.1 x hx
  simp
  omega
end
end Go.Proofs.YtipdleiginnjmaaGreatDoor
