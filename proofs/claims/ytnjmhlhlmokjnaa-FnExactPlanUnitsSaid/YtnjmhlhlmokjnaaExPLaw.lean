/-
  Proved: FnExactPlanUnits answers true, for every argument. No conditions.
-/
import Derived.Test.YtnjmhlhlmokjnaaRows
import Derived.Test.YtnjmhlhlmokjnaaExP6
import Derived.WalkKit
import Derived.ProofKit
import Derived.OpenShut
import Derived.ShutString
import Derived.ChangeOld
import Derived.Below
import Derived.SizedLaws
namespace Go.Proofs.Ytnjmhlhlmokjnaa.fnExactPlanUnits
open Go.ChangeShapes Go.WideShapes Go.ChangeAt Go.RowKit Go.Proofs.YtnjmhlhlmokjnaaW.PrintWords
set_option linter.unusedVariables false
set_option linter.unusedSimpArgs false
theorem own : ownKnob Try.prog.godebug = none := by kernel_rfl
theorem laidOut : laidOutB Try.prog = true := by kernel_rfl
set_option maxRecDepth 100000 in
theorem lifted (os : Os) (started : os.Started) (H : Type) (enc : TypeId × Value → H) :
    ReturnsInHanded {} Try.checked os 9 .any (Rows.fnExactPlanUnitsSpec.pre6 enc Try.prog Try.f9 Rows.fnExactPlanUnitsRow.domain false) (Rows.fnExactPlanUnitsSpec.post enc Try.prog Try.f9 false true false false) := by
  refine returnsInHanded_of_change_sized (C := Try.checked) own started (by kernel_rfl) Try.func9
    (ChangeSpec.witness6 (enc := enc) (C := Try.checked) false ⟨#[], #[.slice none 0 0, .slice none 0 0, .slice none 0 0], []⟩ 9 (by kernel_rfl) (by kernel_rfl) (by kernel_rfl) (by kernel_rfl)) ?_
  intro W base args ds gs before hval0 hW hcnd hsz0 _
  have hval : ∀ (j : Nat) t v, Try.f9.params[j]? = some t → args[j]? = some v → Value.okWide Try.prog W .any base t v := hval0
  have hW' := hW
  obtain ⟨p, q, hA0, hV, rfl, hfz, hnd⟩ := hW
  have hA : DataW.TrodAll enc Try.prog W 0 (fun _ => true) true Try.f9.params.toList args.toList ds p := hA0
  rw [Try.params9] at hA hval
  obtain ⟨v0, vs0, d0, ds0, p0, q0, hargs, rfl, rfl, h0, r0⟩ := trodAll_cons hA
  obtain ⟨v1, vs1, d1, ds1, p1, q1, rfl, rfl, rfl, h1, r1⟩ := trodAll_cons r0
  obtain ⟨v2, vs2, d2, ds2, p2, q2, rfl, rfl, rfl, h2, r2⟩ := trodAll_cons r1
  obtain ⟨rfl, rfl, rfl⟩ := trodAll_nil r2
  obtain rfl : args = #[v0, v1, v2] := by cases args; simp_all
  obtain ⟨rfl, rfl⟩ := trodVars_none hV
  obtain ⟨a0, len0, cap0, rfl⟩ := okWide_slice Try.underlying34 (hval 0 34 v0 rfl rfl)
  have k0 := h0
  have lt0 : ∀ x ∈ p0, x.block < W.heap.size := by obtain ⟨m, hm⟩ := k0; exact DataW.trod_lt m _ _ _ hm
  obtain ⟨l0, hr0, hc0, hz0, e0⟩ : ∃ l : List G.S70, (Kd.slice 70 G.k70).K W l [.slice a0 len0 cap0] ∧ l.length ≤ cap0 ∧ (∀ a ∈ l, G.unitRaw a) ∧ len0 = l.length := by
    obtain ⟨fuel, hf⟩ := h0
    obtain ⟨l, hk, _, hg⟩ := G.opens_units _ _ _ hf
    obtain ⟨A', c', hcs, hl, hC⟩ := hk
    simp [Value.cells] at hcs
    obtain ⟨rfl, rfl, rfl⟩ := hcs
    exact ⟨l, ⟨_, _, rfl, hl, hC⟩, hl, hg, rfl⟩
  subst e0
  obtain ⟨A0, c0, hcs0, _, hC0⟩ := hr0
  simp only [List.cons.injEq, Value.slice.injEq, and_true, true_and] at hcs0
  obtain ⟨rfl, rfl⟩ := hcs0
  obtain ⟨a1, len1, cap1, rfl⟩ := okWide_slice Try.underlying34 (hval 1 34 v1 rfl rfl)
  have k1 := h1
  have lt1 : ∀ x ∈ p1, x.block < W.heap.size := by obtain ⟨m, hm⟩ := k1; exact DataW.trod_lt m _ _ _ hm
  obtain ⟨l1, hr1, hc1, hz1, e1⟩ : ∃ l : List G.S70, (Kd.slice 70 G.k70).K W l [.slice a1 len1 cap1] ∧ l.length ≤ cap1 ∧ (∀ a ∈ l, G.unitRaw a) ∧ len1 = l.length := by
    obtain ⟨fuel, hf⟩ := h1
    obtain ⟨l, hk, _, hg⟩ := G.opens_units _ _ _ hf
    obtain ⟨A', c', hcs, hl, hC⟩ := hk
    simp [Value.cells] at hcs
    obtain ⟨rfl, rfl, rfl⟩ := hcs
    exact ⟨l, ⟨_, _, rfl, hl, hC⟩, hl, hg, rfl⟩
  subst e1
  obtain ⟨A1, c1, hcs1, _, hC1⟩ := hr1
  simp only [List.cons.injEq, Value.slice.injEq, and_true, true_and] at hcs1
  obtain ⟨rfl, rfl⟩ := hcs1
  obtain ⟨a2, len2, cap2, rfl⟩ := okWide_slice Try.underlying25 (hval 2 25 v2 rfl rfl)
  have k2 := h2
  have lt2 : ∀ x ∈ p2, x.block < W.heap.size := by obtain ⟨m, hm⟩ := k2; exact DataW.trod_lt m _ _ _ hm
  obtain ⟨l2, hr2, hc2, hz2, e2⟩ : ∃ l : List ByteArray, (Kd.slice 9 Kd.string).K W l [.slice a2 len2 cap2] ∧ l.length ≤ cap2 ∧ (∀ a ∈ l, (fun s : ByteArray => s.size ≤ 9223372036854775807) a) ∧ len2 = l.length := by
    obtain ⟨fuel, hf⟩ := h2
    obtain ⟨l, hk, _, hg⟩ := G.opens_texts _ _ _ hf
    obtain ⟨A', c', hcs, hl, hC⟩ := hk
    simp [Value.cells] at hcs
    obtain ⟨rfl, rfl, rfl⟩ := hcs
    exact ⟨l, ⟨_, _, rfl, hl, hC⟩, hl, hg, rfl⟩
  subst e2
  obtain ⟨A2, c2, hcs2, _, hC2⟩ := hr2
  simp only [List.cons.injEq, Value.slice.injEq, and_true, true_and] at hcs2
  obtain ⟨rfl, rfl⟩ := hcs2
  clear hA0 hval0 hsz0
  refine (G.laws_FnExactPlanUnits_walk _ _ l0 _ _ l1 _ _ l2 W hC0 hc0 hz0 hC1 hc1 hz1 hC2 hc2 hz2).mono fun e W' ⟨he, bel⟩ => ?_
  subst he
  exact ⟨_, rfl, _, _, _, [], _, [], hW', trodAll_mk1 (shut_bool Try.underlying4 _), (trodAll_cons_mk (Below.trod laidOut (by kernel_rfl) (of_decide_eq_true (by kernel_rfl)) k0 bel lt0) (trodAll_cons_mk (Below.trod laidOut (by kernel_rfl) (of_decide_eq_true (by kernel_rfl)) k1 bel lt1) (trodAll_cons_mk (Below.trod laidOut (by kernel_rfl) (of_decide_eq_true (by kernel_rfl)) k2 bel lt2) trodAll_mk0))), rfl, bel.frame _, fun h => by cases h⟩
theorem over : Rows.fnExactPlanUnitsRow.holds Try.pinned (OpenSpec.ofChange Rows.fnExactPlanUnitsSpec) :=
  OpenClaim.holds_of_wide 9 Try.f9 rfl rfl rfl rfl rfl rfl rfl ⟨rfl, rfl, rfl, rfl, rfl⟩ rfl rfl rfl rfl rfl (by kernel_rfl) Try.func9 (by kernel_rfl)
    (of_decide_eq_true (by kernel_rfl)) (by unfold Func.isWrapper; first | (rw [if_pos (by decide +kernel)]; kernel_rfl) | (rw [if_neg (by decide +kernel)]; exact ⟨rfl, rfl⟩))
    (fun os started H enc _ => lifted os started H enc)
theorem proved : Rows.FnExactPlanUnitsSaid := over
#print axioms proved
end Go.Proofs.Ytnjmhlhlmokjnaa.fnExactPlanUnits
