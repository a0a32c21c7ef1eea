/- Put together: A queue's laws: a key sent again; groups; what went; receipts. No program in it. · What went of a queue, and what is there: each message once. No program in it. · Maps of the laws' own, as objects. -/
import Derived.Test.YtoclcmnphdgfpaaGreatDoorG12
set_option linter.unusedVariables false
set_option linter.unusedSimpArgs false
set_option linter.unusedVariables false
set_option linter.unusedSimpArgs false
namespace Go.Proofs.YtoclcmnphdgfpaaGreatDoor
open Go.RowKit in
theorem slice_str (s : ByteArray) (m : Nat) (h : m ≤ s.size) (W : World) : (Instr.slice 9 (.string s) none (some (.int .i64 (m : Int))) none).run Tryz.prog W = .ok (.string (s.extract 0 m)) W := by
  have h2 : (m : Int).toNat = m := by omega
  simp [Instr.slice, run_underlying Tryz.underlying9, Instr.sliceBounds, Instr.sliceBound, asIntOf, go_sem, h2, h]
section
variable {σ σ' : Qs} {T : Nat}
theorem mget_snoc {α β : Type} [DecidableEq α] {l : List (α × β)} {k : α} {v : β} (h : mget l k = none) : mget (l ++ [(k, v)]) k = some v := by
  induction l with
  | nil => rw [List.nil_append, mget_cons, if_pos rfl]
  | cons p l ih =>
    rw [mget_cons] at h
    split at h
    · cases h
    · rename_i hp
      rw [List.cons_append, mget_cons, if_neg hp, ih h]
/-- A call that sets nothing leaves the attributes. -/
theorem does_attr (kind num num2 : Int) (body group key rec : ByteArray) (qa : QA) (h6 : kind ≠ 6) : (qDoes σ kind num num2 body group key rec qa).a = σ.a := by
  unfold qDoes
  split
  · unfold qTck; split <;> rfl
  split
  · unfold qSend
    split
    · rfl
    · split
      · rfl
      · split <;> rfl
  split
  · unfold qRcv; split <;> rfl
  split
  · unfold qAck; split <;> rfl
  split
  · unfold qExt
    split
    · split
      · dsimp only
        split <;> rfl
      · rfl
    · rfl
  split
  · rfl
  · rfl
/-- A key sent again. -/
theorem once_law {body body2 g key : ByteArray} (hw : 0 < σ.a.win) (hk : 0 < key.size ∧ key.size ≤ 256) (hb : body.size ≤ 256) (hb2 : body2.size ≤ 256) (hg : (σ.a.fifo = true ∧ g = ⟨#[103]⟩) ∨ (σ.a.fifo = false ∧ g = ⟨#[]⟩)) :
    (qSend σ body g key (-1)).2.2 = 5 ∨ ∃ σ1 id, qSend σ body g key (-1) = (σ1, (id, 0)) ∧ qSend σ1 body2 g key (-1) = (σ1, (id, 0)) := by
  have hmay : ∀ (s : Qs) (b : ByteArray), s.a = σ.a → b.size ≤ 256 → qMaySend s.a b g key (-1) = true := by
    intro s b hs hb
    rw [hs]
    unfold qMaySend
    rw [Bool.and_eq_true, decide_eq_true_iff]
    rcases hg with ⟨h1, rfl⟩ | ⟨h1, rfl⟩
    · rw [h1]
      refine ⟨⟨hb, by decide, hk.2⟩, ?_⟩
      rw [if_pos rfl]
      decide
    · rw [h1]
      refine ⟨⟨hb, by decide, hk.2⟩, ?_⟩
      rw [if_neg (by decide)]
      decide
  unfold qSend
  rw [if_neg (by rw [hmay σ body rfl hb]; decide)]
  cases hm : mget σ.k key with
  | some x =>
    right
    refine ⟨σ, x.1, rfl, ?_⟩
    rw [if_neg (by rw [hmay σ body2 rfl hb2]; decide), hm]
  | none =>
    dsimp only
    cases hf : qFull σ key with
    | true => left; rw [if_pos rfl]
    | false =>
      right
      rw [if_neg (by decide)]
      refine ⟨_, _, rfl, ?_⟩
      have hkn : qKnows σ.a key = true := decide_eq_true ⟨hk.1, hw⟩
      rw [if_neg (by rw [hmay (qSent σ body g key (-1)) body2 rfl hb2]; decide)]
      have hk2 : (qSent σ body g key (-1)).k = σ.k ++ [(key, (σ.next, σ.now + σ.a.win))] := by
        unfold qSent
        dsimp only
        rw [hkn, if_pos rfl]
      rw [hk2, mget_snoc hm]
/-- What becomes of a queue by a call that sends nothing: no message comes, none is another one's. -/
structure Sub (σ' σ : Qs) : Prop where
  msg : ∀ m' ∈ σ'.l, ∃ m ∈ σ.l, m'.id = m.id ∧ m'.group = m.group ∧ m.count ≤ m'.count
  key : ∀ p ∈ σ'.k, p ∈ σ.k
  nxt : σ'.next = σ.next
  fifo : σ'.a.fifo = σ.a.fifo
theorem Sub.refl (σ : Qs) : Sub σ σ := ⟨fun m h => ⟨m, h, rfl, rfl, Int.le_refl _⟩, fun _ h => h, rfl, rfl⟩
theorem sub_map {f : Msg → Msg} (hf : ∀ m, (f m).id = m.id ∧ (f m).group = m.group ∧ m.count ≤ (f m).count) : Sub { σ with l := σ.l.map f } σ :=
  ⟨fun m' h => by obtain ⟨m, hm, rfl⟩ := List.mem_map.1 h; exact ⟨m, hm, hf m⟩, fun _ h => h, rfl, rfl⟩
theorem sub_drop (id : Int) : Sub (qDrop σ id) σ := ⟨fun m' h => ⟨m', (List.mem_filter.1 h).1, rfl, rfl, Int.le_refl _⟩, fun _ h => h, rfl, rfl⟩
theorem sub_tck (now : Int) : Sub (qTck σ now).1 σ := by
  unfold qTck
  split
  · refine ⟨fun m' h => ?_, fun p h => (List.mem_filter.1 h).1, rfl, rfl⟩
    obtain ⟨m, hm, rfl⟩ := List.mem_map.1 h
    refine ⟨m, (List.mem_filter.1 hm).1, lapse_id m now, lapse_group m now, ?_⟩
    unfold Msg.lapse
    split <;> exact Int.le_refl _
  · exact Sub.refl σ
theorem sub_rcv (n vis : Int) : Sub (qRcv σ n vis).1 σ := by
  unfold qRcv
  split
  · refine sub_map (fun m => ?_)
    split
    · exact ⟨rfl, rfl, by show m.count ≤ m.count + 1; omega⟩
    · exact ⟨rfl, rfl, Int.le_refl _⟩
  · exact Sub.refl σ
theorem sub_ack (s : ByteArray) : Sub (qAck σ s).1 σ := by
  unfold qAck
  split
  · exact sub_drop _
  · exact Sub.refl σ
theorem sub_ext (s : ByteArray) (vis : Int) : Sub (qExt σ s vis).1 σ := by
  unfold qExt
  split
  · split
    · dsimp only
      split
      · exact sub_map (fun m => by split <;> exact ⟨rfl, rfl, Int.le_refl _⟩)
      · exact sub_map (fun m => by split <;> exact ⟨rfl, rfl, Int.le_refl _⟩)
    · exact Sub.refl σ
  · exact Sub.refl σ
theorem sub_does (kind num num2 : Int) (body group key rec : ByteArray) (qa : QA) (h1 : kind ≠ 1) : Sub (qDoes σ kind num num2 body group key rec qa) σ := by
  unfold qDoes
  split
  · exact sub_tck num
  split
  · exact sub_rcv num num2
  split
  · exact sub_ack rec
  split
  · exact sub_ext rec num
  split
  · exact ⟨fun m' h => absurd h (by simp [qPurge]), fun _ h => h, rfl, rfl⟩
  split
  · unfold qSet
    split
    · rename_i h
      rw [Bool.and_eq_true, beq_iff_eq] at h
      exact ⟨fun m h => ⟨m, h, rfl, rfl, Int.le_refl _⟩, fun _ h => h, rfl, h.2⟩
    · exact Sub.refl σ
  · exact Sub.refl σ
/-! Groups of a Fifo queue -/
/-- What is known of groups, and of what was received last. -/
structure FInv (σ : Qs) (gs : List (Int × ByteArray)) (ls : List (ByteArray × Int)) : Prop where
  fifo : σ.a.fifo = true
  gid : ∀ m ∈ σ.l, mget gs m.id = some m.group
  gk : ∀ p ∈ σ.k, (mget gs p.2.1).isSome = true
  gl : ∀ id, σ.next ≤ id → mget gs id = none
  last : ∀ m ∈ σ.l, (mget ls m.group).getD 0 ≤ m.id
theorem FInv.new {a : QA} (h : a.fifo = true) : FInv (qNew a) [] [] := ⟨h, fun m hm => absurd hm (by simp [qNew]), fun m hm => absurd hm (by simp [qNew]), fun _ _ => rfl, fun m hm => absurd hm (by simp [qNew])⟩
theorem FInv.sub {gs : List (Int × ByteArray)} {ls : List (ByteArray × Int)} (h : FInv σ gs ls) (hs : Sub σ' σ) : FInv σ' gs ls := by
  refine ⟨hs.fifo.trans h.fifo, fun m' hm' => ?_, fun p hp => h.gk p (hs.key p hp), fun id hid => h.gl id (by rw [← hs.nxt]; exact hid), fun m' hm' => ?_⟩
  · obtain ⟨m, hm, e1, e2, _⟩ := hs.msg m' hm'
    rw [e1, e2]
    exact h.gid m hm
  · obtain ⟨m, hm, e1, e2, _⟩ := hs.msg m' hm'
    rw [e1, e2]
    exact h.last m hm
/-- A Send: what its number's group is. -/
theorem FInv.send {gs : List (Int × ByteArray)} {ls : List (ByteArray × Int)} (h : FInv σ gs ls) (hi : QInv σ T) (hls : ∀ p ∈ ls, p.2 < σ.next) (body group key : ByteArray) (delay : Int) :
    ((qSend σ body group key delay).2.2 ≠ 0 → FInv (qSend σ body group key delay).1 gs ls) ∧
    ((qSend σ body group key delay).2.2 = 0 → ((mget gs (qSend σ body group key delay).2.1).isSome = true → FInv (qSend σ body group key delay).1 gs ls) ∧ (mget gs (qSend σ body group key delay).2.1 = none → FInv (qSend σ body group key delay).1 (mput gs (qSend σ body group key delay).2.1 group) ls)) := by
  unfold qSend
  split
  · exact ⟨fun _ => h, fun e => absurd e (show ¬ (1 : Int) = 0 by decide)⟩
  · cases hm : mget σ.k key with
    | some x =>
      refine ⟨fun _ => h, fun _ => ⟨fun _ => h, fun hn => ?_⟩⟩
      have := h.gk _ (mget_some hm)
      dsimp only at this hn
      rw [hn] at this
      cases this
    | none =>
      dsimp only
      split
      · exact ⟨fun _ => h, fun e => absurd e (show ¬ (5 : Int) = 0 by decide)⟩
      · refine ⟨fun e => absurd rfl e, fun _ => ⟨fun hs => ?_, fun _ => ?_⟩⟩
        · dsimp only at hs
          rw [h.gl σ.next (Int.le_refl _)] at hs
          cases hs
        · dsimp only
          refine ⟨h.fifo, fun m hm => ?_, fun p hp => ?_, fun id hid => ?_, fun m hm => ?_⟩
          · rcases List.mem_append.1 hm with hm | hm
            · have := hi.ids m hm
              rw [mget_put_other _ _ (by omega)]
              exact h.gid m hm
            · rw [List.mem_singleton.1 hm]
              exact mget_put_same _ _ _
          · have hp : p ∈ (if qKnows σ.a key then σ.k ++ [(key, (σ.next, σ.now + σ.a.win))] else σ.k) := hp
            have hold : ∀ p ∈ σ.k, (mget (mput gs σ.next group) p.2.1).isSome = true := fun p hp => by
              have := hi.kid p hp
              rw [mget_put_other _ _ (by omega)]
              exact h.gk p hp
            split at hp
            · rcases List.mem_append.1 hp with hp | hp
              · exact hold p hp
              · rw [List.mem_singleton.1 hp]
                dsimp only
                rw [mget_put_same]
                rfl
            · exact hold p hp
          · have hid : σ.next + 1 ≤ id := hid
            rw [mget_put_other _ _ (by omega)]
            exact h.gl id (by omega)
          · rcases List.mem_append.1 hm with hm | hm
            · exact h.last m hm
            · rw [List.mem_singleton.1 hm]
              dsimp only
              cases hl : mget ls group with
              | none => have := hi.nxt.1; dsimp only [Option.getD]; omega
              | some v => have := hls _ (mget_some hl); dsimp only [Option.getD]; dsimp only at this; omega
/-- One that is received: the first of its group; from then on it is the last one of it. -/
theorem FInv.took {gs : List (Int × ByteArray)} {ls : List (ByteArray × Int)} (h : FInv σ gs ls) {x : Msg} (hx : x ∈ σ.l) (hf : qFirst σ.l x = true) : FInv σ gs (mput ls x.group x.id) := by
  refine ⟨h.fifo, h.gid, h.gk, h.gl, fun m hm => ?_⟩
  by_cases e : m.group = x.group
  · rw [e, mget_put_same]
    dsimp only [Option.getD]
    unfold qFirst at hf
    rw [Bool.not_eq_true', List.any_eq_false] at hf
    have := hf m hm
    rw [decide_eq_true_iff] at this
    have : ¬ m.id < x.id := fun h => this ⟨h, e⟩
    omega
  · rw [mget_put_other _ _ e]
    exact h.last m hm
/-! Receipts -/
/-- Receipts that were told: none is one that is still to be told. -/
def RInv (σ : Qs) (rs : List ByteArray) : Prop := ∀ r ∈ rs, ∃ id c : Int, r = receipt id c ∧ 0 < id ∧ id < σ.next ∧ 0 ≤ c ∧ ∀ m ∈ σ.l, m.id = id → c ≤ m.count
theorem RInv.sub {rs : List ByteArray} (h : RInv σ rs) (hs : Sub σ' σ) : RInv σ' rs := by
  intro r hr
  obtain ⟨id, c, e, h1, h2, h3, h4⟩ := h r hr
  refine ⟨id, c, e, h1, by rw [hs.nxt]; exact h2, h3, fun m' hm' e' => ?_⟩
  obtain ⟨m, hm, e1, _, e3⟩ := hs.msg m' hm'
  have := h4 m hm (by omega)
  omega
theorem RInv.send {rs : List ByteArray} (h : RInv σ rs) (hi : QInv σ T) (body group key : ByteArray) (delay : Int) : RInv (qSend σ body group key delay).1 rs := by
  unfold qSend
  split
  · exact h
  · split
    · exact h
    · split
      · exact h
      · intro r hr
        obtain ⟨id, c, e, h1, h2, h3, h4⟩ := h r hr
        refine ⟨id, c, e, h1, by show id < σ.next + 1; omega, h3, fun m hm e' => ?_⟩
        rcases List.mem_append.1 hm with hm | hm
        · exact h4 m hm e'
        · rw [List.mem_singleton.1 hm] at e'
          dsimp only at e'
          omega
theorem RInv.does {rs : List ByteArray} (h : RInv σ rs) (hi : QInv σ T) (kind num num2 : Int) (body group key rec : ByteArray) (qa : QA) : RInv (qDoes σ kind num num2 body group key rec qa) rs := by
  by_cases h1 : kind = 1
  · subst h1
    unfold qDoes
    rw [if_neg (by decide), if_pos rfl]
    exact h.send hi body group key num
  · exact h.sub (sub_does kind num num2 body group key rec qa h1)
/-- A receipt that is told now was not told before. -/
theorem RInv.fresh {rs : List ByteArray} (h : RInv σ rs) (hi : QInv σ T) {m : Msg} (hm : m ∈ σ.l) : receipt m.id (m.count + 1) ∉ rs := by
  intro hr
  obtain ⟨id, c, e, h1, h2, h3, h4⟩ := h _ hr
  have hc := hi.cnt m hm
  have hd := hi.ids m hm
  obtain ⟨e1, e2⟩ := receipt_inj (by omega) (by omega) (by omega) h3 e
  have := h4 m hm e1
  omega
/-- An Ack of any receipt. -/
theorem ack_cases (s : ByteArray) : (∃ m ∈ σ.l, m.leased = true ∧ qAck σ s = (qDrop σ m.id, (m.id, 0))) ∨ (qBy σ s = none ∧ qAck σ s = (σ, (0, 8))) := by
  unfold qAck
  cases h : qBy σ s with
  | some m =>
    obtain ⟨h1, h2, _⟩ := qBy_some h
    exact .inl ⟨m, h1, h2, rfl⟩
  | none => exact .inr ⟨rfl, rfl⟩
theorem ext_none {s : ByteArray} (h : qBy σ s = none) : qExt σ s 5 = (σ, 8) := by
  unfold qExt
  rw [if_pos (by decide), h]
theorem drop_len (hi : QInv σ T) {m : Msg} (hm : m ∈ σ.l) : (qDrop σ m.id).l.length + 1 = σ.l.length := by
  obtain ⟨i, hil, rfl⟩ := List.getElem_of_mem hm
  show (σ.l.filter _).length + 1 = _
  rw [drop_out hi.rise (List.getElem?_eq_getElem hil), List.length_append, List.length_take, List.length_drop]
  omega
end
open Go.RowKit Go.Proofs.YtoclcmnphdgfpaaGreatDoorW.PrintWords in
/-- A call of a queue beside a document's queue of its own: what the queue becomes. -/
theorem Hp.doesFresh {w0 w : World} {P : Asn} {Ps : List Asn} {qb T : Nat} {σ : Qs} {a : QA} (h : Hp w0 w (P :: AQu qb σ T :: Ps)) (hr : qRight a = true) (hrec : RecOk w0 T) (hT6 : T < 1000000) (kind num num2 : Int) (body group key rec : ByteArray) (qa : QA) (hgs : group.size ≤ maxLen) (hks : key.size ≤ maxLen) :
    Calls Tryz.prog 22 #[.pointer (some ⟨qb, 0, none⟩), (qNew a).val (.slice none 0 0) (.slice none 0 0), opVal kind num num2 body group key rec qa] w fun e w' => ∃ v, e = .returned v ∧ Hp w0 w' (P :: AQu qb (qDoes σ kind num num2 body group key rec qa) (T + 1) :: Ps) := by
  have h1 : Hp w0 w (AKy (.slice none 0 0) (qNew a).k :: AQu qb σ T :: P :: Ps) := h.swap.fresh (Below.refl _ _) (Kd.R_nil _ _ _ _ _)
  have h2 : Hp w0 w (ADm (.slice none 0 0) (qNew a).l :: AKy (.slice none 0 0) (qNew a).k :: AQu qb σ T :: P :: Ps) := h1.fresh (Below.refl _ _) (Kd.R_nil _ _ _ _ _)
  refine Calls.mono (h2.does (QInv.new hr) hrec hT6 (Nat.zero_le _) kind num num2 body group key rec qa hgs hks) ?_
  rintro e w' ⟨b, A', n', c', B', m', d', _, rfl, hP⟩
  exact ⟨_, rfl, hP.tail.tail.swap⟩
end Go.Proofs.YtoclcmnphdgfpaaGreatDoor
set_option linter.unusedVariables false
set_option linter.unusedSimpArgs false
namespace Go.Proofs.YtoclcmnphdgfpaaGreatDoor
section
variable {σ σ' : Qs} {T : Nat} {ws : List (Int × Int)} {rem : List Int}
/-- Each number is that of a message that is there, of one that was counted, or of one that is still to be counted (rem), and of just one of these. -/
structure CPart (σ : Qs) (ws : List (Int × Int)) (rem : List Int) : Prop where
  one : ∀ p ∈ ws, p.2 = 1
  nd : (σ.l.map (·.id) ++ (rem ++ ws.map (·.1))).Nodup
  mem : ∀ id, (id ∈ σ.l.map (·.id) ∨ id ∈ rem ∨ id ∈ ws.map (·.1)) ↔ (0 < id ∧ id < σ.next)
theorem CPart.new (a : QA) : CPart (qNew a) [] [] := ⟨fun p hp => absurd hp (by simp), by simp [qNew], fun id => by simp [qNew]; omega⟩
/-- The messages that went are to be counted. -/
theorem CPart.go (h : CPart σ ws []) (hp : (σ.l.map (·.id)).Perm (σ'.l.map (·.id) ++ rem)) (hn : σ'.next = σ.next) : CPart σ' ws rem := by
  refine ⟨h.one, ?_, fun id => ?_⟩
  · have h1 := h.nd
    rw [List.nil_append] at h1
    have h2 : (σ.l.map (·.id) ++ ws.map (·.1)).Perm (σ'.l.map (·.id) ++ (rem ++ ws.map (·.1))) := by
      rw [← List.append_assoc]
      exact hp.append_right _
    exact h2.nodup_iff.1 h1
  · rw [hn, ← h.mem id, hp.mem_iff, List.mem_append]
    simp only [List.not_mem_nil, false_or, or_assoc]
theorem CPart.unseen {id : Int} (h : CPart σ ws (id :: rem)) : mget ws id = none := by
  rw [mget_none]
  intro p hp e
  have h1 := h.nd
  rw [List.nodup_append] at h1
  have h2 := h1.2.1
  rw [List.cons_append, List.nodup_cons] at h2
  exact h2.1 (List.mem_append_right _ (List.mem_map.2 ⟨p, hp, e⟩))
/-- One is counted. -/
theorem CPart.step {id : Int} (h : CPart σ ws (id :: rem)) : CPart σ (mput ws id 1) rem := by
  have hn := h.unseen
  have hd : mdel ws id = ws := by
    unfold mdel
    rw [List.filter_eq_self]
    intro p hp
    rw [mget_none] at hn
    simpa using hn p hp
  have he : mput ws id 1 = (id, 1) :: ws := by unfold mput; rw [hd]
  rw [he]
  refine ⟨fun p hp => ?_, ?_, fun x => ?_⟩
  · rcases List.mem_cons.1 hp with rfl | hp
    · rfl
    · exact h.one p hp
  · have h1 := h.nd
    rw [List.map_cons]
    have h2 : (σ.l.map (·.id) ++ (id :: rem ++ ws.map (·.1))).Perm (σ.l.map (·.id) ++ (rem ++ id :: ws.map (·.1))) :=
      List.Perm.append_left _ (List.perm_middle.symm)
    exact h2.nodup_iff.1 h1
  · rw [← h.mem x, List.map_cons, List.mem_cons, List.mem_cons]
    constructor
    · rintro (h | h | h | h)
      · exact .inl h
      · exact .inr (.inl (.inr h))
      · exact .inr (.inl (.inl h))
      · exact .inr (.inr h)
    · rintro (h | (h | h) | h)
      · exact .inl h
      · exact .inr (.inr (.inl h))
      · exact .inr (.inl h)
      · exact .inr (.inr (.inr h))
/-- All counted: what is there, and what went, are all that were sent. -/
theorem CPart.count (h : CPart σ ws []) (hi : QInv σ T) : ((ws.length : Nat) : Int) + ((σ.l.length : Nat) : Int) = σ.next - 1 := by
  have hr : ((List.range (σ.next - 1).toNat).map (fun i => ((i : Nat) : Int) + 1)).Nodup := by
    rw [List.nodup_iff_pairwise_ne, List.pairwise_map]
    exact List.nodup_range.imp (fun h e => h (by omega))
  have h1 := h.nd
  rw [List.nil_append] at h1
  have hp : (σ.l.map (·.id) ++ ws.map (·.1)).Perm ((List.range (σ.next - 1).toNat).map (fun i => ((i : Nat) : Int) + 1)) := by
    rw [List.perm_ext_iff_of_nodup h1 hr]
    intro x
    rw [List.mem_append, List.mem_map (f := fun i => ((i : Nat) : Int) + 1)]
    have hm := h.mem x
    simp only [List.not_mem_nil, false_or] at hm
    rw [hm]
    constructor
    · intro ⟨h2, h3⟩
      exact ⟨(x - 1).toNat, List.mem_range.2 (by omega), by omega⟩
    · rintro ⟨i, hi, rfl⟩
      have := List.mem_range.1 hi
      omega
  have := hp.length_eq
  rw [List.length_append, List.length_map, List.length_map, List.length_map, List.length_range] at this
  have := hi.nxt.1
  omega
theorem CPart.there (h : CPart σ ws []) {m : Msg} (hm : m ∈ σ.l) : mget ws m.id = none ∧ 0 < m.id ∧ m.id < σ.next := by
  have h2 := (h.mem m.id).1 (.inl (List.mem_map_of_mem hm))
  refine ⟨mget_none.2 (fun p hp e => ?_), h2⟩
  have h1 := h.nd
  rw [List.nil_append, List.nodup_append] at h1
  exact h1.2.2 m.id (List.mem_map_of_mem hm) p.1 (List.mem_map_of_mem hp) e.symm
/-- What a Tick takes away. -/
theorem tick_perm (σ : Qs) (now : Int) : (σ.l.map (·.id)).Perm ((qTick σ now).l.map (·.id) ++ ((qDead σ now).map (·.id) ++ qGone σ now)) := by
  show (σ.l.map (·.id)).Perm (((σ.l.filter (fun m => m.stays σ.a now)).map (fun m => m.lapse now)).map (·.id) ++ ((σ.l.filter (fun m => m.dies σ.a now)).map (·.id) ++ (σ.l.filter (fun m => m.goes σ.a now)).map (·.id)))
  rw [List.map_map]
  have e : ((·.id) ∘ fun m : Msg => m.lapse now) = (·.id) := by funext m; exact lapse_id m now
  rw [e, ← List.map_append, ← List.map_append]
  refine List.Perm.map _ ?_
  generalize σ.l = l
  induction l with
  | nil => exact List.Perm.refl _
  | cons m l ih =>
    have hc : (m.dies σ.a now = true ∧ m.goes σ.a now = false ∧ m.stays σ.a now = false) ∨ (m.dies σ.a now = false ∧ m.goes σ.a now = true ∧ m.stays σ.a now = false) ∨ (m.dies σ.a now = false ∧ m.goes σ.a now = false ∧ m.stays σ.a now = true) := by
      unfold Msg.goes Msg.stays
      cases m.dies σ.a now
      · cases decide (m.sent + σ.a.ret ≤ now)
        · exact .inr (.inr ⟨rfl, rfl, rfl⟩)
        · exact .inr (.inl ⟨rfl, rfl, rfl⟩)
      · exact .inl ⟨rfl, rfl, rfl⟩
    rw [List.filter_cons, List.filter_cons, List.filter_cons]
    rcases hc with ⟨h1, h2, h3⟩ | ⟨h1, h2, h3⟩ | ⟨h1, h2, h3⟩
    · rw [h1, h2, h3, if_pos rfl, if_neg (by decide), if_neg (by decide), List.cons_append]
      exact (ih.cons m).trans List.perm_middle.symm
    · rw [h1, h2, h3, if_pos rfl, if_neg (by decide), if_neg (by decide)]
      refine (ih.cons m).trans ?_
      rw [← List.append_assoc, ← List.append_assoc]
      exact List.perm_middle.symm
    · rw [h1, h2, h3, if_pos rfl, if_neg (by decide), if_neg (by decide), List.cons_append]
      exact ih.cons m
theorem CPart.tck (h : CPart σ ws []) (now : Int) : CPart (qTck σ now).1 ws ((qTck σ now).2.1.map (·.1) ++ (qTck σ now).2.2) := by
  unfold qTck
  split
  · refine h.go ?_ rfl
    rw [List.map_map]
    exact tick_perm σ now
  · exact h
theorem CPart.ack (h : CPart σ ws []) (hi : QInv σ T) (s : ByteArray) : ((qAck σ s).2.2 = 0 ∧ CPart (qAck σ s).1 ws [(qAck σ s).2.1]) ∨ ((qAck σ s).2.2 = 8 ∧ (qAck σ s).1 = σ) := by
  rcases ack_cases (σ := σ) s with ⟨m, hm, _, e⟩ | ⟨_, e⟩
  · left
    rw [e]
    refine ⟨rfl, h.go ?_ rfl⟩
    obtain ⟨i, hil, rfl⟩ := List.getElem_of_mem hm
    show (σ.l.map (·.id)).Perm ((σ.l.filter (fun x => decide (x.id ≠ σ.l[i].id))).map (·.id) ++ [σ.l[i].id])
    rw [drop_out hi.rise (List.getElem?_eq_getElem hil)]
    have hs : σ.l = σ.l.take i ++ σ.l[i] :: σ.l.drop (i + 1) := by rw [← List.drop_eq_getElem_cons hil, List.take_append_drop]
    conv => lhs; rw [hs]
    rw [List.map_append, List.map_append, List.map_cons, List.append_assoc]
    exact List.Perm.append_left _ (List.perm_append_comm (l₁ := [σ.l[i].id]))
  · right
    rw [e]
    exact ⟨rfl, rfl⟩
theorem CPart.purge (h : CPart σ ws []) : CPart (qPurge σ) ws (σ.l.map (·.id)) := h.go (List.Perm.refl _) rfl
theorem CPart.send (h : CPart σ ws []) (hi : QInv σ T) (body group key : ByteArray) (delay : Int) :
    CPart (qSend σ body group key delay).1 ws [] ∧ ((qSend σ body group key delay).2.2 = 0 → (qSend σ body group key delay).1.next - 1 = max (σ.next - 1) (qSend σ body group key delay).2.1) ∧ ((qSend σ body group key delay).2.2 ≠ 0 → (qSend σ body group key delay).1.next = σ.next) := by
  have hn := hi.nxt.1
  unfold qSend
  split
  · exact ⟨h, fun e => absurd e (show ¬ (1 : Int) = 0 by decide), fun _ => rfl⟩
  · cases hm : mget σ.k key with
    | some x =>
      have := hi.kid _ (mget_some hm)
      exact ⟨h, fun _ => by dsimp only at this ⊢; omega, fun _ => rfl⟩
    | none =>
      dsimp only
      split
      · exact ⟨h, fun e => absurd e (show ¬ (5 : Int) = 0 by decide), fun _ => rfl⟩
      · have hl : (qSent σ body group key delay).l.map (·.id) = σ.l.map (·.id) ++ [σ.next] := by
          unfold qSent
          rw [List.map_append]
          rfl
        have hx : (qSent σ body group key delay).next = σ.next + 1 := rfl
        refine ⟨⟨h.one, ?_, fun id => ?_⟩, fun _ => by dsimp only; rw [hx]; omega, fun e => absurd rfl e⟩
        · have h1 := h.nd
          rw [hl, List.nil_append]
          rw [List.nil_append] at h1
          have h2 : ((σ.l.map (·.id) ++ [σ.next]) ++ ws.map (·.1)).Perm (σ.next :: (σ.l.map (·.id) ++ ws.map (·.1))) := by
            rw [List.append_assoc]
            exact List.perm_middle
          refine h2.nodup_iff.2 (List.nodup_cons.2 ⟨fun hx => ?_, h1⟩)
          have := (h.mem σ.next).1 (by
            rcases List.mem_append.1 hx with hx | hx
            · exact .inl hx
            · exact .inr (.inr hx))
          omega
        · have hm2 := h.mem id
          rw [hl, hx, List.mem_append]
          constructor
          · rintro ((hx | hx) | hx | hx)
            · have := hm2.1 (.inl hx); omega
            · have : id = σ.next := by simpa using hx
              omega
            · cases hx
            · have := hm2.1 (.inr (.inr hx)); omega
          · intro ⟨h2, h3⟩
            by_cases e : id = σ.next
            · subst e; exact .inl (.inr (by simp))
            · rcases hm2.2 ⟨h2, by omega⟩ with hx | hx | hx
              · exact .inl (.inl hx)
              · cases hx
              · exact .inr (.inr hx)
/-- A call that neither sends nor takes away. -/
theorem CPart.does (h : CPart σ ws []) (kind num num2 : Int) (body group key rec : ByteArray) (qa : QA) (h0 : kind ≠ 0) (h1 : kind ≠ 1) (h3 : kind ≠ 3) (h5 : kind ≠ 5) : CPart (qDoes σ kind num num2 body group key rec qa) ws [] ∧ (qDoes σ kind num num2 body group key rec qa).next = σ.next := by
  have hk : ∀ s : Qs, s.l.map (·.id) = σ.l.map (·.id) → s.next = σ.next → CPart s ws [] ∧ s.next = σ.next := fun s e1 e2 => ⟨h.go (by rw [List.append_nil, e1]) e2, e2⟩
  unfold qDoes
  rw [if_neg h0, if_neg h1]
  split
  · unfold qRcv
    split
    · refine hk _ ?_ rfl
      show (σ.l.map _).map _ = _
      rw [List.map_map]
      apply List.map_congr_left
      intro m _
      simp only [Function.comp]
      split <;> rfl
    · exact hk _ rfl rfl
  split
  · unfold qExt
    split
    · split
      · dsimp only
        split
        · refine hk _ ?_ rfl
          show (σ.l.map _).map _ = _
          rw [List.map_map]
          apply List.map_congr_left
          intro m _
          simp only [Function.comp]
          split <;> rfl
        · refine hk _ ?_ rfl
          show (σ.l.map _).map _ = _
          rw [List.map_map]
          apply List.map_congr_left
          intro m _
          simp only [Function.comp]
          split <;> rfl
      · exact hk _ rfl rfl
    · exact hk _ rfl rfl
  split
  · unfold qSet
    split
    · exact hk _ rfl rfl
    · exact hk _ rfl rfl
  · exact hk _ rfl rfl
end
end Go.Proofs.YtoclcmnphdgfpaaGreatDoor
set_option linter.unusedVariables false
set_option linter.unusedSimpArgs false
namespace Go.Proofs.YtoclcmnphdgfpaaGreatDoor
open Go.RowKit Go.Maps Go.Proofs.YtoclcmnphdgfpaaGreatDoorW.PrintWords
/-- A map, told as a list of entries. -/
def AMap {α β : Type} [DecidableEq α] {k : TypeId} (K : KeyKd Tryz.prog k α) (enc : β → Value) (mb : Nat) (ms : List (α × β)) : Asn where
  pred w S := S mb ∧ MapAt K enc w mb ms
  mono h hm := ⟨hm mb h.1 h.2.lt, h.2⟩
  move h hm := ⟨h.1, h.2.move (hm mb h.1 h.2.lt)⟩
section
variable {α β : Type} [DecidableEq α] {k : TypeId} {K : KeyKd Tryz.prog k α} {enc : β → Value} {mb : Nat} {ms : List (α × β)} {w0 w : World} {Ps : List Asn}
theorem Hp.asAMap {g : Nat} (h : Hp w0 w (ABlk g (.map #[] 0) :: Ps)) : Hp w0 w (AMap K enc g [] :: Ps) := by
  obtain ⟨S1, h1, h2⟩ := h.use1
  refine h2 w (AMap K enc g []) (Keep.refl _ _) ⟨.inl h1.1, ?_⟩
  obtain ⟨es, clock, e1, e2⟩ := (MapAt.made K enc w).clone
  rw [heap_alloc_new] at e1
  injection e1 with e1
  injection e1 with e1 e3
  subst e1 e3
  exact e2 w g h1.2
theorem Hp.aMap (h : Hp w0 w (AMap K enc mb ms :: Ps)) : MapAt K enc w mb ms := (h.head : (AMap K enc mb ms).pred _ _).2
theorem Hp.aMapUse (h : Hp w0 w (AMap K enc mb ms :: Ps)) : MapAt K enc w mb ms ∧ ∀ (w' : World) (ms' : List (α × β)), MapAt K enc w' mb ms' → ButB w w' mb → Hp w0 w' (AMap K enc mb ms' :: Ps) := by
  obtain ⟨S1, h1, h2⟩ := h.use1
  exact ⟨h1.2, fun w' ms' hM hB => h2 w' (AMap K enc mb ms') (hB.keep h1.1) ⟨.inl h1.1, hM⟩⟩
/-- A range over a map is under way. -/
def ARg {α β : Type} [DecidableEq α] {k : TypeId} (K : KeyKd Tryz.prog k α) (enc : β → Value) (mb rb : Nat) (ms todo : List (α × β)) : Asn where
  pred w S := S mb ∧ S rb ∧ RangeAt K enc w mb rb ms todo
  mono h hm := ⟨hm _ h.1 h.2.2.lt.1, hm _ h.2.1 h.2.2.lt.2.1, h.2.2⟩
  move h hm := ⟨h.1, h.2.1, h.2.2.move (hm _ h.1 h.2.2.lt.1) (hm _ h.2.1 h.2.2.lt.2.1)⟩
theorem Hp.aRgStart {rb : Nat} (h : Hp w0 w (AMap K enc mb ms :: Ps)) {w' : World} (hR : RangeAt K enc w' mb w.heap.size ms ms) (hB : Below w.heap.size w w') (hrb : rb = w.heap.size) : Hp w0 w' (ARg K enc mb rb ms ms :: Ps) := by
  subst hrb
  obtain ⟨S1, h1, h2⟩ := h.use1
  exact h2 w' (ARg K enc mb w.heap.size ms ms) (Keep.of_below hB _) ⟨.inl h1.1, .inr (Nat.le_refl _), hR⟩
theorem Hp.aRgNext {rb : Nat} {todo : List (α × β)} (h : Hp w0 w (ARg K enc mb rb ms todo :: Ps)) : RangeAt K enc w mb rb ms todo ∧ ∀ (w' : World) (todo' : List (α × β)), RangeAt K enc w' mb rb ms todo' → ButB w w' rb → Hp w0 w' (ARg K enc mb rb ms todo' :: Ps) := by
  obtain ⟨S1, h1, h2⟩ := h.use1
  exact ⟨h1.2.2, fun w' todo' hR hB => h2 w' (ARg K enc mb rb ms todo') (hB.keep h1.2.1) ⟨.inl h1.1, .inl h1.2.1, hR⟩⟩
theorem Hp.aRgEnd {rb : Nat} {todo : List (α × β)} (h : Hp w0 w (ARg K enc mb rb ms todo :: Ps)) : Hp w0 w (AMap K enc mb ms :: Ps) := by
  obtain ⟨S1, h1, h2⟩ := h.use1
  exact h2 w (AMap K enc mb ms) (Keep.refl _ _) ⟨.inl h1.1, h1.2.2.1⟩
end
theorem zero_str (w : World) : (zeroValue 9).run Tryz.prog w = .ok (.string ⟨#[]⟩) w := by kernel_rfl
theorem zero_i (w : World) : (zeroValue 3).run Tryz.prog w = .ok (.int .i64 0) w := by kernel_rfl
theorem under49 : Tryz.prog.underlying 49 = some (.map 3 9) := Tryz.underlying49
theorem under50 : Tryz.prog.underlying 50 = some (.map 9 3) := Tryz.underlying50
theorem under66 : Tryz.prog.underlying 66 = some (.map 3 3) := Tryz.underlying66
section
variable {w : World} {mb : Nat}
/-- A number's group. -/
theorem lookG {gs : List (Int × ByteArray)} (h : MapAt KI Value.string w mb gs) {id : Int} (hw : (Lit.int .i64 id).wf = true) :
    (Instr.lookup 49 (.map (some mb)) (.int .i64 id) false).run Tryz.prog w = .ok (.string ((mget gs id).getD ⟨#[]⟩)) w := by
  have := h.look1 under49 (zero_str w) (a := id) hw
  cases hm : mget gs id with
  | none => rw [hm] at this; exact this
  | some v => rw [hm] at this; exact this
theorem lookG2 {gs : List (Int × ByteArray)} (h : MapAt KI Value.string w mb gs) {id : Int} (hw : (Lit.int .i64 id).wf = true) :
    (Instr.lookup 49 (.map (some mb)) (.int .i64 id) true).run Tryz.prog w = .ok (.tuple #[.string ((mget gs id).getD ⟨#[]⟩), .bool (mget gs id).isSome]) w := by
  have := h.look under49 (zero_str w) (a := id) hw
  cases hm : mget gs id with
  | none => rw [hm] at this; exact this
  | some v => rw [hm] at this; exact this
/-- A group's last number. -/
theorem lookL {ls : List (ByteArray × Int)} (h : MapAt KG (Value.int .i64) w mb ls) {g : ByteArray} (hw : g.size ≤ maxLen) :
    (Instr.lookup 50 (.map (some mb)) (.string g) false).run Tryz.prog w = .ok (.int .i64 ((mget ls g).getD 0)) w := by
  have := h.look1 under50 (zero_i w) (a := g) hw
  cases hm : mget ls g with
  | none => rw [hm] at this; exact this
  | some v => rw [hm] at this; exact this
/-- How often a number went. -/
theorem lookW {ws : List (Int × Int)} (h : MapAt KI (Value.int .i64) w mb ws) {id : Int} (hw : (Lit.int .i64 id).wf = true) :
    (Instr.lookup 66 (.map (some mb)) (.int .i64 id) false).run Tryz.prog w = .ok (.int .i64 ((mget ws id).getD 0)) w := by
  have := h.look1 under66 (zero_i w) (a := id) hw
  cases hm : mget ws id with
  | none => rw [hm] at this; exact this
  | some v => rw [hm] at this; exact this
end
end Go.Proofs.YtoclcmnphdgfpaaGreatDoor
