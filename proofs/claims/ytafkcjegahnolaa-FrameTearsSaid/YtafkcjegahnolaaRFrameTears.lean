/- The statement FrameTears holds: what its call comes to (the walk) in the form of the given row. No condition. -/
import Derived.Test.YtafkcjegahnolaaRows
import Derived.Test.YtafkcjegahnolaaLFrameTears
import Derived.Test.YtafkcjegahnolaaOpen
import Derived.WalkKit
import Derived.ProofKit
import Derived.OpenShut
import Derived.ShutString
import Derived.ChangeOld
import Derived.Below
import Derived.SizedLaws
namespace Go.Proofs.Ytafkcjegahnolaa.frameTears
open Go.ChangeShapes Go.WideShapes Go.ChangeAt Go.RowKit Go.Proofs.YtafkcjegahnolaaW.PrintWords
open Go.ChangeMaps (open_string shut_string)
set_option linter.unusedVariables false
theorem own : ownKnob Try.prog.godebug = none := by kernel_rfl
theorem laidOut : laidOutB Try.prog = true := by kernel_rfl
set_option maxRecDepth 100000 in
theorem lifted (os : Os) (started : os.Started) (H : Type) (enc : TypeId × Value → H) :
    ReturnsInHanded {} Try.checked os 6 .any (Rows.frameTearsSpec.pre6 enc Try.prog Try.f6 Rows.frameTearsRow.domain false) (Rows.frameTearsSpec.post enc Try.prog Try.f6 false true false false) := by
  refine returnsInHanded_of_change_sized (C := Try.checked) own started (by kernel_rfl) Try.func6
    (ChangeSpec.witness6 (enc := enc) (C := Try.checked) false ⟨#[], #[.slice none 0 0, .int .i64 0, .int .i64 0, .agg #[.int .u8 0, .int .u8 0, .int .u8 0, .int .u8 0]], []⟩ 8 (by kernel_rfl) (by kernel_rfl) (by kernel_rfl) (by kernel_rfl)) ?_
  intro W base args ds gs before hval0 hW hcnd hsz0 _
  have hsz : (DataW.weightsEach Try.prog (Try.f6.params.toList ++ Rows.frameTearsSpec.plain.varTypes Try.prog) (ds ++ gs)).all (· ≤ reachBytes) = true := hsz0
  have hval : ∀ (j : Nat) t v, Try.f6.params[j]? = some t → args[j]? = some v → Value.okWide Try.prog W .any base t v := hval0
  have hW' := hW
  obtain ⟨p, q, hA0, hV, rfl, hfz, hnd⟩ := hW
  have hA : DataW.TrodAll enc Try.prog W 0 (fun _ => true) true Try.f6.params.toList args.toList ds p := hA0
  rw [Try.params6] at hA hval hsz
  obtain ⟨v0, vs0, d0, ds0, p0, q0, hargs, rfl, rfl, h0, r0⟩ := trodAll_cons hA
  obtain ⟨v1, vs1, d1, ds1, p1, q1, rfl, rfl, rfl, h1, r1⟩ := trodAll_cons r0
  obtain ⟨v2, vs2, d2, ds2, p2, q2, rfl, rfl, rfl, h2, r2⟩ := trodAll_cons r1
  obtain ⟨v3, vs3, d3, ds3, p3, q3, rfl, rfl, rfl, h3, r3⟩ := trodAll_cons r2
  obtain ⟨rfl, rfl, rfl⟩ := trodAll_nil r3
  obtain rfl : args = #[v0, v1, v2, v3] := by cases args; simp_all
  obtain ⟨rfl, rfl⟩ := trodVars_none hV
  obtain ⟨a0, len0, cap0, rfl⟩ := okWide_slice Try.underlying22 (hval 0 22 v0 rfl rfl)
  have k0 := h0
  have lt0 : ∀ x ∈ p0, x.block < W.heap.size := by obtain ⟨m, hm⟩ := k0; exact DataW.trod_lt m _ _ _ hm
  obtain ⟨l0, hC0, hc0, ho0⟩ := arg_slice Try.underlying22 (by kernel_rfl) (opens_int (k := .u8) Try.underlying5 (by kernel_rfl)) h0
  obtain ⟨a1, rfl, rfl, rfl, w1⟩ := open_int Try.underlying3 (hval 1 3 v1 rfl rfl) h1
  obtain ⟨a2, rfl, rfl, rfl, w2⟩ := open_int Try.underlying3 (hval 2 3 v2 rfl rfl) h2
  obtain ⟨cs3, rfl, hsz3⟩ : ∃ cs : Array Value, v3 = .agg cs ∧ cs.size = 4 := by
    have hx := hval 3 35 v3 rfl rfl
    simp [Value.okWide, Try.underlying35] at hx
    obtain ⟨cs, e1, e2, _⟩ := hx
    exact ⟨cs, e1, e2.trans (by kernel_rfl)⟩
  have k3 := h3
  have lt3 : ∀ x ∈ p3, x.block < W.heap.size := by obtain ⟨m, hm⟩ := k3; exact DataW.trod_lt m _ _ _ hm
  obtain ⟨l3⟩ := cs3
  obtain ⟨c30, c31, c32, c33, rfl⟩ := list4 l3 hsz3
  obtain ⟨fu3, hf3⟩ := h3
  obtain ⟨y30, y31, y32, y33, m3, hx3, hy30, hy31, hy32, hy33⟩ := trod_array4 Try.underlying35 (by kernel_rfl) hf3
  obtain ⟨x30, e30, _, w30⟩ := DataW.trod_int Try.underlying5 hy30
  obtain ⟨x31, e31, _, w31⟩ := DataW.trod_int Try.underlying5 hy31
  obtain ⟨x32, e32, _, w32⟩ := DataW.trod_int Try.underlying5 hy32
  obtain ⟨x33, e33, _, w33⟩ := DataW.trod_int Try.underlying5 hy33
  simp at e30 e31 e32 e33
  subst e30 e31 e32 e33
  clear hA0 hval0 hsz0 hsz
  refine (tears_any a0 len0 cap0 l0 a1 a2 x30 x31 x32 x33 W hC0 hc0 ho0 w1 w2 w30 w31 w32 w33).mono fun e W' ⟨he, bel⟩ => ?_
  subst he
  exact ⟨_, rfl, _, _, _, [], _, [], hW', trodAll_mk1 (shut_bool Try.underlying4 _), (trodAll_cons_mk (Below.trod laidOut (by kernel_rfl) (of_decide_eq_true (by kernel_rfl)) k0 bel lt0) (trodAll_cons_mk (shut_int Try.underlying3 w1) (trodAll_cons_mk (shut_int Try.underlying3 w2) (trodAll_cons_mk (Below.trod laidOut (by kernel_rfl) (of_decide_eq_true (by kernel_rfl)) k3 bel lt3) trodAll_mk0)))), rfl, bel.frame _, fun h => by cases h⟩
theorem over : Rows.frameTearsRow.holds Try.pinned (OpenSpec.ofChange Rows.frameTearsSpec) :=
  OpenClaim.holds_of_wide 6 Try.f6 rfl rfl rfl rfl rfl rfl rfl ⟨rfl, rfl, rfl, rfl, rfl⟩ rfl rfl rfl rfl rfl (by kernel_rfl) Try.func6 (by kernel_rfl)
    (of_decide_eq_true (by kernel_rfl)) (by unfold Func.isWrapper; first | (rw [if_pos (by decide +kernel)]; kernel_rfl) | (rw [if_neg (by decide +kernel)]; exact ⟨rfl, rfl⟩))
    (fun os started H enc _ => lifted os started H enc)
theorem proved : Rows.FrameTearsSaid := over
#print axioms proved
end Go.Proofs.Ytafkcjegahnolaa.frameTears
namespace Go.Proofs.Ytafkcjegahnolaa
/-- The row, under a short name, for the claim. -/
theorem frameTears_holds : Rows.FrameTearsSaid := frameTears.proved
end Go.Proofs.Ytafkcjegahnolaa
