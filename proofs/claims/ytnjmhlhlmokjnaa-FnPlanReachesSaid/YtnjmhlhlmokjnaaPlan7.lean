/-
  Part 7 of the texts of this claim: GLawsFnPlanReaches.
-/
import Derived.Test.YtnjmhlhlmokjnaaPlan6
namespace Go.Proofs.Ytnjmhlhlmokjnaa.G
open Go.RowKit Go.Proofs.YtnjmhlhlmokjnaaW.PrintWords Go.Proofs.YtnjmhlhlmokjnaaW.PrintLast Go.Proofs.YtnjmhlhlmokjnaaW.PrintMore
attribute [local go_sem] max2_int min2_int max_two min_two max_three min_three max_four min_four
set_option linter.unusedVariables false
set_option linter.unusedSimpArgs false
mutual
def laws_FnPlanReaches.j0 : Nat → List Int → List Int → Bool → Option (Bool)
  | 0, _, _, _ => none
  | k + 1, x0, x1, x23 => if x23 = true then (some true) else ((spec_DrawPlanUnits.f k x0).bind fun bt219 => ((impl_PlanUnits.f bt219.1 bt219.2.1 bt219.2.2).bind fun t228 => ((spec_UnitsOk.f bt219.1).bind fun t231 => (if t231 = true then ((spec_UnitsOk.f bt219.2.1).bind fun t232 => (laws_FnPlanReaches.j1 k x1 bt219.1 bt219.2.1 bt219.2.2 t228 (!t232))) else (laws_FnPlanReaches.j1 k x1 bt219.1 bt219.2.1 bt219.2.2 t228 true)))))
def laws_FnPlanReaches.j1 : Nat → List Int → List (S32) → List (S32) → List ByteArray → List (S55) → Bool → Option (Bool)
  | 0, _, _, _, _, _, _ => none
  | k + 1, x1, x5, x6, x7, x8, x41 => if x41 = true then (if (x8.length : Int) = 0 then ((impl_UnitsOk.f (([] : List (S32)))).bind fun t236 => (some t236)) else (some false)) else ((impl_ApplyActs.f x7 x8).bind fun t237 => ((spec_StartOrder.f k x6).bind fun bt240 => (laws_FnPlanReaches.l0 k x1 x5 x6 x7 x8 t237 bt240.1 0)))
def laws_FnPlanReaches.l0 : Nat → List Int → List (S32) → List (S32) → List ByteArray → List (S55) → List ByteArray → List ByteArray → Int → Option (Bool)
  | 0, _, _, _, _, _, _, _, _ => none
  | k + 1, x1, x5, x6, x7, x8, x9, x10, x12 => if x12 < (x10.length : Int) then (if 0 ≤ x12 then ((laws_has.f k x9 (rdOf ByteArray.empty x10 x12)).bind fun t245 => (if t245 = true then (laws_FnPlanReaches.l0 k x1 x5 x6 x7 x8 x9 x10 (wrap64 (x12 + 1))) else (some false))) else (none)) else (laws_FnPlanReaches.l1 k x1 x5 x6 x7 x8 x9 x10 0)
def laws_FnPlanReaches.l1 : Nat → List Int → List (S32) → List (S32) → List ByteArray → List (S55) → List ByteArray → List ByteArray → Int → Option (Bool)
  | 0, _, _, _, _, _, _, _, _ => none
  | k + 1, x1, x5, x6, x7, x8, x9, x10, x13 => if x13 < (x9.length : Int) then (if 0 ≤ x13 then ((laws_unit.f k x6 (rdOf ByteArray.empty x9 x13)).bind fun t247 => (if t247 < 0 then ((laws_unit.f k x5 (rdOf ByteArray.empty x9 x13)).bind fun t249 => (if t249 ≥ 0 then (some false) else ((laws_has.f k x10 (rdOf ByteArray.empty x9 x13)).bind fun t251 => (if t251 = true then (laws_FnPlanReaches.l1 k x1 x5 x6 x7 x8 x9 x10 (wrap64 (x13 + 1))) else ((laws_has.f k x7 (rdOf ByteArray.empty x9 x13)).bind fun t253 => (if t253 = true then (laws_FnPlanReaches.l1 k x1 x5 x6 x7 x8 x9 x10 (wrap64 (x13 + 1))) else (some false))))))) else ((laws_has.f k x10 (rdOf ByteArray.empty x9 x13)).bind fun t255 => (if t255 = true then (laws_FnPlanReaches.l1 k x1 x5 x6 x7 x8 x9 x10 (wrap64 (x13 + 1))) else ((laws_has.f k x7 (rdOf ByteArray.empty x9 x13)).bind fun t257 => (if t257 = true then (laws_FnPlanReaches.l1 k x1 x5 x6 x7 x8 x9 x10 (wrap64 (x13 + 1))) else (some false))))))) else (none)) else ((spec_PlanUnits.f x5 x6 x7).bind fun t258 => (if (x8.length : Int) = (t258.length : Int) then (if (x8.length : Int) > 0 then (if (wrap64 ((x8.length : Int) + 1)) = 0 then (none) else (laws_FnPlanReaches.j4 k x5 x6 x7 x8 x9 ((x1.length : Int) % (wrap64 ((x8.length : Int) + 1))))) else (laws_FnPlanReaches.j4 k x5 x6 x7 x8 x9 0)) else (some false)))
def laws_FnPlanReaches.j4 : Nat → List (S32) → List (S32) → List ByteArray → List (S55) → List ByteArray → Int → Option (Bool)
  | 0, _, _, _, _, _, _ => none
  | k + 1, x5, x6, x7, x8, x9, x14 => if 0 ≤ x14 then (if x14 ≤ (x8.length : Int) then ((impl_ApplyActs.f x7 (x8.take (x14 : Int).toNat)).bind fun t265 => ((impl_PlanUnits.f x5 x6 t265).bind fun t268 => ((impl_ApplyActs.f t265 t268).bind fun t271 => ((laws_sameTexts.f k t271 x9).bind fun t274 => (if t274 = true then ((impl_PlanUnits.f x5 x6 x9).bind fun t275 => (laws_FnPlanReaches.l2 k t275 0)) else (some false)))))) else (none)) else (none)
def laws_FnPlanReaches.l2 : Nat → List (S55) → Int → Option (Bool)
  | 0, _, _ => none
  | k + 1, x16, x17 => if x17 < (x16.length : Int) then (if 0 ≤ x17 then (if ((rd_T55 x16 x17).f0) = 3 then (laws_FnPlanReaches.l2 k x16 (wrap64 (x17 + 1))) else (some false)) else (none)) else ((impl_UnitsOk.f (([] : List (S32)))).bind fun t282 => (some t282))
end
def laws_FnPlanReaches.f (k : Nat) (l0 : List Int) (l1 : List Int) : Option (Bool) := (laws_big.f l0).bind fun t217 => (if t217 = true then (laws_FnPlanReaches.j0 k l0 l1 true) else ((laws_big.f l1).bind fun t218 => (laws_FnPlanReaches.j0 k l0 l1 t218)))
set_option maxHeartbeats 8000000 in
set_option maxRecDepth 100000 in
theorem laws_FnPlanReaches.calls (k : Nat) (A0 : Option Addr) (c0 : Nat) (l0 : List Int) (A1 : Option Addr) (c1 : Nat) (l1 : List Int) (r : Bool) (w : World) (hr0 : Kd.C (Kd.int .u8) w A0 l0.length l0) (hc0 : l0.length ≤ c0) (hr1 : Kd.C (Kd.int .u8) w A1 l1.length l1) (hc1 : l1.length ≤ c1) (h : laws_FnPlanReaches.f k l0 l1 = some r) :
    Calls Try.prog 8 #[.slice A0 l0.length c0, .slice A1 l1.length c1] w fun e w' => e = .returned (.bool r) ∧ Below w.heap.size w w' := by
  have HR0 := Aside0.mk hr0
  have HC0 := Aside0.mk hc0
  clear hr0 hc0
  have HR1 := Aside0.mk hr1
  have HC1 := Aside0.mk hc1
  clear hr1 hc1
  have HB := Aside0.mk (Below.refl w.heap.size w)
  have H : ((laws_big.f l0).bind fun t217 => (if t217 = true then (laws_FnPlanReaches.j0 k l0 l1 true) else ((laws_big.f l1).bind fun t218 => (laws_FnPlanReaches.j0 k l0 l1 t218)))) = some r := h
  clear h
  have HC3 := Aside0.mk H
  clear H
  go_enter Try.func8, Try.ntmps8
  go_upto_region 1 with (fail)
  go_cut [23] (fun v23 wc => ∃ (kq : Nat) (x23_2 : Bool), v23 = .bool x23_2 ∧ Aside0 (laws_FnPlanReaches.j0 kq l0 l1 x23_2 = some r) ∧ Aside0 (kq ≤ k) ∧ Aside0 (Below w.heap.size w wc))
  case first =>
    have H := HC3.out
    clear HC3
    replace H := Option.bind_eq_some_iff.mp H
    obtain ⟨t217, A40, H⟩ := H
    replace H : (if t217 = true then (laws_FnPlanReaches.j0 k l0 l1 true) else ((laws_big.f l1).bind fun t218 => (laws_FnPlanReaches.j0 k l0 l1 t218))) = some r := H
    have A4 := Aside0.mk A40
    clear A40
    by_cases c5 : t217 = true
    · subst c5
      have H1 : (laws_FnPlanReaches.j0 k l0 l1 true) = some r := by rw [if_pos rfl] at H; exact H
      clear H
      have H := H1
      clear H1
      have H' := Aside0.mk H
      clear H
      go_wp2_with (first | ((with_reducible refine gate_callee (f := 10) rfl ?_); refine goesL_ (some 19) rfl rfl Try.func10 (by kernel_rfl) rfl #[.slice A0 l0.length c0] rfl (by (try simp only [List.map_toArray, List.map_cons, List.map_nil]); first | done | rfl | (simp only [List.length_drop, List.length_take]; rfl)) ?_; (with_reducible refine (laws_big.calls _ _ l0 true _ ?side1 ?side2 A4.out).mono ?_); (case side1 => repeat (first | exact (Kd.C_below HR0.out HB.out) | (with_reducible refine Kd.C_alloc ?_ _) | (with_reducible refine Kd.C_drewN ?_ _) | (with_reducible refine Kd.C_drew ?_))); (case side2 => exact HC0.out); rintro e w' ⟨rfl, ⟨nd, rfl⟩⟩; refine ⟨_, rfl, ?_⟩))
      go_meet
      case rel => exact ⟨_, (true), (by first | rfl | (simp; done) | (simp [*]; done)), H', ⟨by first | omega | exact Nat.le_refl _⟩, ⟨by repeat (first | (with_reducible first | exact HB.out | apply below_alloc | apply pw_below_drewN | apply below_drew1) | exact HB.out)⟩⟩
    · replace c5 := Bool.eq_false_iff.mpr c5
      subst c5
      have H1 : ((laws_big.f l1).bind fun t218 => (laws_FnPlanReaches.j0 k l0 l1 t218)) = some r := by rw [if_neg (show ¬ (false = true) by decide)] at H; exact H
      clear H
      have H := H1
      clear H1
      replace H := Option.bind_eq_some_iff.mp H
      obtain ⟨t218, A60, H⟩ := H
      replace H : (laws_FnPlanReaches.j0 k l0 l1 t218) = some r := H
      have A6 := Aside0.mk A60
      clear A60
      have H' := Aside0.mk H
      clear H
      go_wp2_with (first | ((with_reducible refine gate_callee (f := 10) rfl ?_); refine goesL_ (some 19) rfl rfl Try.func10 (by kernel_rfl) rfl #[.slice A0 l0.length c0] rfl (by (try simp only [List.map_toArray, List.map_cons, List.map_nil]); first | done | rfl | (simp only [List.length_drop, List.length_take]; rfl)) ?_; (with_reducible refine (laws_big.calls _ _ l0 false _ ?side1 ?side2 A4.out).mono ?_); (case side1 => repeat (first | exact (Kd.C_below HR0.out HB.out) | (with_reducible refine Kd.C_alloc ?_ _) | (with_reducible refine Kd.C_drewN ?_ _) | (with_reducible refine Kd.C_drew ?_))); (case side2 => exact HC0.out); rintro e w' ⟨rfl, ⟨nd, rfl⟩⟩; refine ⟨_, rfl, ?_⟩) | (go_at_call 10; (with_reducible refine (laws_big.calls _ _ l1 t218 _ ?side1 ?side2 A6.out).mono ?_); (case side1 => repeat (first | exact (Kd.C_below HR1.out (by repeat (first | (with_reducible first | exact HB.out | apply below_alloc | apply pw_below_drewN | apply below_drew1) | exact HB.out))) | (with_reducible refine Kd.C_alloc ?_ _) | (with_reducible refine Kd.C_drewN ?_ _) | (with_reducible refine Kd.C_drew ?_))); (case side2 => exact HC1.out); rintro e w' ⟨rfl, ⟨nd, rfl⟩⟩))
      go_meet
      case rel => exact ⟨_, (t218), (by first | rfl | (simp; done) | (simp [*]; done)), H', ⟨by first | omega | exact Nat.le_refl _⟩, ⟨by repeat (first | (with_reducible first | exact HB.out | apply below_alloc | apply pw_below_drewN | apply below_drew1) | exact HB.out)⟩⟩
  case rest =>
    clear HC3
    try clear c1
    try clear p2
    try clear c5
    obtain ⟨kq, x23_2, rfl, HA, HJ2, HB⟩ := hcut
    cases kq with
    | zero => exact absurd HA.out (by simp [laws_FnPlanReaches.j0])
    | succ kj2 =>
      have H := HA.out
      clear HA
      simp only [laws_FnPlanReaches.j0] at H
      by_cases c7 : x23_2 = true
      · subst c7
        have H1 : (some true) = some r := by rw [if_pos rfl] at H; exact H
        clear H
        have H := H1
        clear H1
        obtain rfl := Option.some.inj H
        go_wp2
        go_ret
        exact ⟨by first | rfl | (simp [errW_none, errW_some] <;> rfl) | (simp [*, errW_none, errW_some] <;> rfl), by repeat (first | (with_reducible first | exact HB.out | apply below_alloc | apply pw_below_drewN | apply below_drew1) | exact HB.out)⟩
      · replace c7 := Bool.eq_false_iff.mpr c7
        subst c7
        have H1 : ((spec_DrawPlanUnits.f kj2 l0).bind fun bt219 => ((impl_PlanUnits.f bt219.1 bt219.2.1 bt219.2.2).bind fun t228 => ((spec_UnitsOk.f bt219.1).bind fun t231 => (if t231 = true then ((spec_UnitsOk.f bt219.2.1).bind fun t232 => (laws_FnPlanReaches.j1 kj2 l1 bt219.1 bt219.2.1 bt219.2.2 t228 (!t232))) else (laws_FnPlanReaches.j1 kj2 l1 bt219.1 bt219.2.1 bt219.2.2 t228 true))))) = some r := by rw [if_neg (show ¬ (false = true) by decide)] at H; exact H
        clear H
        have H := H1
        clear H1
        replace H := Option.bind_eq_some_iff.mp H
        obtain ⟨⟨t219, t220, t221⟩, A80, H⟩ := H
        replace H : ((impl_PlanUnits.f t219 t220 t221).bind fun t228 => ((spec_UnitsOk.f t219).bind fun t231 => (if t231 = true then ((spec_UnitsOk.f t220).bind fun t232 => (laws_FnPlanReaches.j1 kj2 l1 t219 t220 t221 t228 (!t232))) else (laws_FnPlanReaches.j1 kj2 l1 t219 t220 t221 t228 true)))) = some r := H
        have A8 := Aside0.mk A80
        clear A80
        replace H := Option.bind_eq_some_iff.mp H
        obtain ⟨t228, A90, H⟩ := H
        replace H : ((spec_UnitsOk.f t219).bind fun t231 => (if t231 = true then ((spec_UnitsOk.f t220).bind fun t232 => (laws_FnPlanReaches.j1 kj2 l1 t219 t220 t221 t228 (!t232))) else (laws_FnPlanReaches.j1 kj2 l1 t219 t220 t221 t228 true))) = some r := H
        have A9 := Aside0.mk A90
        clear A90
        have HC10 := Aside0.mk H
        clear H
        go_upto_region 5 with (first | ((with_reducible refine gate_callee (f := 33) rfl ?_); refine goesL_ (some 26) rfl rfl Try.func33 (by kernel_rfl) rfl #[.slice A0 l0.length c0] rfl (by (try simp only [List.map_toArray, List.map_cons, List.map_nil]); first | done | rfl | (simp only [List.length_drop, List.length_take]; rfl)) ?_; (with_reducible refine (spec_DrawPlanUnits.calls kj2 _ _ l0 t219 t220 t221 _ ?side1 ?side2 A8.out).mono ?_); (case side1 => repeat (first | exact (Kd.C_below HR0.out HB.out) | (with_reducible refine Kd.C_alloc ?_ _) | (with_reducible refine Kd.C_drewN ?_ _) | (with_reducible refine Kd.C_drew ?_))); (case side2 => exact HC0.out); rintro e w11 ⟨v222, v224, v226, rfl, ho0, ho1, ho2, hb⟩; refine ⟨_, rfl, ?_⟩; have n0_ := Aside0.mk (Kd.S_lower ho0 (below_size (by repeat (first | (with_reducible first | exact HB.out | apply below_alloc | apply pw_below_drewN | apply below_drew1) | exact HB.out)))); have n1_ := Aside0.mk (Kd.S_lower ho1 (below_size (by repeat (first | (with_reducible first | exact HB.out | apply below_alloc | apply pw_below_drewN | apply below_drew1) | exact HB.out)))); have n2_ := Aside0.mk (Kd.R_lower ho2 (below_size (by repeat (first | (with_reducible first | exact HB.out | apply below_alloc | apply pw_below_drewN | apply below_drew1) | exact HB.out)))); have n3_ := Aside0.mk (below_step (by repeat (first | (with_reducible first | exact HB.out | apply below_alloc | apply pw_below_drewN | apply below_drew1) | exact HB.out)) hb); clear HB; have HO223 := n0_; have HO225 := n1_; have HO227 := n2_; have HB := n3_; clear n0_ n1_ n2_ n3_; (try clear hb); (try clear hb2); (try clear hk); (try clear hi); (try clear ho0); (try clear ho1); (try clear ho2); obtain ⟨Ao12, co12, eo12⟩ := Kd.S_slice HO223.out; subst eo12; obtain ⟨Ao13, co13, eo13⟩ := Kd.S_slice HO225.out; subst eo13; obtain ⟨Ao14, co14, eo14⟩ := Kd.R_slice HO227.out; subst eo14) | ((with_reducible refine gate_callee (f := 34) rfl ?_); refine goesL_ (some 33) rfl rfl Try.func34 (by kernel_rfl) rfl #[.slice Ao12 t219.length co12, .slice Ao13 t220.length co13, .slice Ao14 t221.length co14] rfl (by (try simp only [List.map_toArray, List.map_cons, List.map_nil]); first | done | rfl | (simp only [List.length_drop, List.length_take]; rfl)) ?_; (with_reducible refine (impl_PlanUnits.calls _ _ t219 _ _ t220 _ _ t221 t228 _ ?side1 ?side2 ?side3 ?side4 ?side5 ?side6 A9.out).mono ?_); (case side1 => repeat (first | exact (Kd.S_reads' HO223.out).2.2 | (with_reducible refine Kd.C_alloc ?_ _) | (with_reducible refine Kd.C_drewN ?_ _) | (with_reducible refine Kd.C_drew ?_))); (case side2 => exact (Kd.S_reads' HO223.out).2.1); (case side3 => repeat (first | exact (Kd.S_reads' HO225.out).2.2 | (with_reducible refine Kd.C_alloc ?_ _) | (with_reducible refine Kd.C_drewN ?_ _) | (with_reducible refine Kd.C_drew ?_))); (case side4 => exact (Kd.S_reads' HO225.out).2.1); (case side5 => repeat (first | exact (Kd.R_reads' HO227.out).2.2 | (with_reducible refine Kd.C_alloc ?_ _) | (with_reducible refine Kd.C_drewN ?_ _) | (with_reducible refine Kd.C_drew ?_))); (case side6 => exact (Kd.R_reads' HO227.out).2.1); rintro e w15 ⟨v229, rfl, ho0, hb⟩; refine ⟨_, rfl, ?_⟩; have n0_ := Aside0.mk (Kd.S_below (by (with_reducible repeat (first | apply Kd.S_alloc | apply Kd.S_drewN | apply Kd.S_drew)); exact HO223.out) hb); have n1_ := Aside0.mk (Kd.S_below (by (with_reducible repeat (first | apply Kd.S_alloc | apply Kd.S_drewN | apply Kd.S_drew)); exact HO225.out) hb); have n2_ := Aside0.mk (Kd.R_below (by (with_reducible repeat (first | apply Kd.R_alloc | apply Kd.R_drewN | apply Kd.R_drew)); exact HO227.out) hb); have n3_ := Aside0.mk (Kd.R_lower ho0 (below_size (by repeat (first | (with_reducible first | exact HB.out | apply below_alloc | apply pw_below_drewN | apply below_drew1) | exact HB.out)))); have n4_ := Aside0.mk (below_step (by repeat (first | (with_reducible first | exact HB.out | apply below_alloc | apply pw_below_drewN | apply below_drew1) | exact HB.out)) hb); clear HO223; clear HO225; clear HO227; clear HB; have HO223 := n0_; have HO225 := n1_; have HO227 := n2_; have HO230 := n3_; have HB := n4_; clear n0_ n1_ n2_ n3_ n4_; (try clear hb); (try clear hb2); (try clear hk); (try clear hi); (try clear ho0)))
        (try simp only [Act.put, List.setIfInBounds_toArray, List.set_cons_zero, List.set_cons_succ])
        go_cut [41] (fun v41 wc => ∃ (kq : Nat) (x41_9 : Bool), v41 = .bool x41_9 ∧ Aside0 (laws_FnPlanReaches.j1 kq l1 t219 t220 t221 t228 x41_9 = some r) ∧ Aside0 (kq ≤ kj2) ∧ Aside0 (Kd.S k32 32 wc w.heap.size (fun k_ => some k_ ≠ ((.slice Ao13 t220.length co13) : Value).ownBlock ∧ some k_ ≠ ((.slice Ao14 t221.length co14) : Value).ownBlock) (.slice Ao12 t219.length co12) t219) ∧ Aside0 (Kd.S k32 32 wc w.heap.size (fun k_ => some k_ ≠ ((.slice Ao12 t219.length co12) : Value).ownBlock ∧ some k_ ≠ ((.slice Ao14 t221.length co14) : Value).ownBlock) (.slice Ao13 t220.length co13) t220) ∧ Aside0 (Kd.R Kd.string 9 wc w.heap.size (fun _ => True) (.slice Ao14 t221.length co14) t221) ∧ Aside0 (Kd.R k55 55 wc w.heap.size (fun _ => True) v229 t228) ∧ Aside0 (Below w.heap.size w wc))
        case first =>
          have H := HC10.out
          clear HC10
          replace H := Option.bind_eq_some_iff.mp H
          obtain ⟨t231, A160, H⟩ := H
          replace H : (if t231 = true then ((spec_UnitsOk.f t220).bind fun t232 => (laws_FnPlanReaches.j1 kj2 l1 t219 t220 t221 t228 (!t232))) else (laws_FnPlanReaches.j1 kj2 l1 t219 t220 t221 t228 true)) = some r := H
          have A16 := Aside0.mk A160
          clear A160
          by_cases c17 : t231 = true
          · subst c17
            have H1 : ((spec_UnitsOk.f t220).bind fun t232 => (laws_FnPlanReaches.j1 kj2 l1 t219 t220 t221 t228 (!t232))) = some r := by rw [if_pos rfl] at H; exact H
            clear H
            have H := H1
            clear H1
            replace H := Option.bind_eq_some_iff.mp H
            obtain ⟨t232, A180, H⟩ := H
            replace H : (laws_FnPlanReaches.j1 kj2 l1 t219 t220 t221 t228 (!t232)) = some r := H
            have A18 := Aside0.mk A180
            clear A180
            have H' := Aside0.mk H
            clear H
            go_wp2_with (first | ((with_reducible refine gate_callee (f := 13) rfl ?_); refine goesL_ (some 35) rfl rfl Try.func13 (by kernel_rfl) rfl #[.slice Ao12 t219.length co12] rfl (by (try simp only [List.map_toArray, List.map_cons, List.map_nil]); first | done | rfl | (simp only [List.length_drop, List.length_take]; rfl)) ?_; (with_reducible refine (spec_UnitsOk.calls _ _ t219 true _ ?side1 ?side2 A16.out).mono ?_); (case side1 => repeat (first | exact (Kd.S_reads' HO223.out).2.2 | (with_reducible refine Kd.C_alloc ?_ _) | (with_reducible refine Kd.C_drewN ?_ _) | (with_reducible refine Kd.C_drew ?_))); (case side2 => exact (Kd.S_reads' HO223.out).2.1); rintro e w19 ⟨rfl, hb⟩; refine ⟨_, rfl, ?_⟩; have n0_ := Aside0.mk (Kd.S_below (by (with_reducible repeat (first | apply Kd.S_alloc | apply Kd.S_drewN | apply Kd.S_drew)); exact HO223.out) hb); have n1_ := Aside0.mk (Kd.S_below (by (with_reducible repeat (first | apply Kd.S_alloc | apply Kd.S_drewN | apply Kd.S_drew)); exact HO225.out) hb); have n2_ := Aside0.mk (Kd.R_below (by (with_reducible repeat (first | apply Kd.R_alloc | apply Kd.R_drewN | apply Kd.R_drew)); exact HO227.out) hb); have n3_ := Aside0.mk (Kd.R_below (by (with_reducible repeat (first | apply Kd.R_alloc | apply Kd.R_drewN | apply Kd.R_drew)); exact HO230.out) hb); have n4_ := Aside0.mk (below_step (by repeat (first | (with_reducible first | exact HB.out | apply below_alloc | apply pw_below_drewN | apply below_drew1) | exact HB.out)) hb); clear HO223; clear HO225; clear HO227; clear HO230; clear HB; have HO223 := n0_; have HO225 := n1_; have HO227 := n2_; have HO230 := n3_; have HB := n4_; clear n0_ n1_ n2_ n3_ n4_; (try clear hb); (try clear hb2); (try clear hk); (try clear hi)) | (go_at_call 13; (with_reducible refine (spec_UnitsOk.calls _ _ t220 t232 _ ?side1 ?side2 A18.out).mono ?_); (case side1 => repeat (first | exact (Kd.S_reads' HO225.out).2.2 | (with_reducible refine Kd.C_alloc ?_ _) | (with_reducible refine Kd.C_drewN ?_ _) | (with_reducible refine Kd.C_drew ?_))); (case side2 => exact (Kd.S_reads' HO225.out).2.1); rintro e w20 ⟨rfl, hb⟩; have n0_ := Aside0.mk (Kd.S_below (by (with_reducible repeat (first | apply Kd.S_alloc | apply Kd.S_drewN | apply Kd.S_drew)); exact HO223.out) hb); have n1_ := Aside0.mk (Kd.S_below (by (with_reducible repeat (first | apply Kd.S_alloc | apply Kd.S_drewN | apply Kd.S_drew)); exact HO225.out) hb); have n2_ := Aside0.mk (Kd.R_below (by (with_reducible repeat (first | apply Kd.R_alloc | apply Kd.R_drewN | apply Kd.R_drew)); exact HO227.out) hb); have n3_ := Aside0.mk (Kd.R_below (by (with_reducible repeat (first | apply Kd.R_alloc | apply Kd.R_drewN | apply Kd.R_drew)); exact HO230.out) hb); have n4_ := Aside0.mk (below_step (by repeat (first | (with_reducible first | exact HB.out | apply below_alloc | apply pw_below_drewN | apply below_drew1) | exact HB.out)) hb); clear HO223; clear HO225; clear HO227; clear HO230; clear HB; have HO223 := n0_; have HO225 := n1_; have HO227 := n2_; have HO230 := n3_; have HB := n4_; clear n0_ n1_ n2_ n3_ n4_; (try clear hb); (try clear hb2); (try clear hk); (try clear hi)))
            go_meet
            case rel => exact ⟨_, (!t232), (by first | rfl | (simp; done) | (simp [*]; done)), H', ⟨by have := HJ2.out; first | omega | exact Nat.le_refl _⟩, ⟨by (with_reducible repeat (first | apply Kd.S_alloc | apply Kd.S_drewN | apply Kd.S_drew)); exact HO223.out⟩, ⟨by (with_reducible repeat (first | apply Kd.S_alloc | apply Kd.S_drewN | apply Kd.S_drew)); exact HO225.out⟩, ⟨by (with_reducible repeat (first | apply Kd.R_alloc | apply Kd.R_drewN | apply Kd.R_drew)); exact HO227.out⟩, ⟨by (with_reducible repeat (first | apply Kd.R_alloc | apply Kd.R_drewN | apply Kd.R_drew)); exact HO230.out⟩, ⟨by repeat (first | (with_reducible first | exact HB.out | apply below_alloc | apply pw_below_drewN | apply below_drew1) | exact HB.out)⟩⟩
          · replace c17 := Bool.eq_false_iff.mpr c17
            subst c17
            have H1 : (laws_FnPlanReaches.j1 kj2 l1 t219 t220 t221 t228 true) = some r := by rw [if_neg (show ¬ (false = true) by decide)] at H; exact H
            clear H
            have H := H1
            clear H1
            have H' := Aside0.mk H
            clear H
            go_wp2_with (first | ((with_reducible refine gate_callee (f := 13) rfl ?_); refine goesL_ (some 35) rfl rfl Try.func13 (by kernel_rfl) rfl #[.slice Ao12 t219.length co12] rfl (by (try simp only [List.map_toArray, List.map_cons, List.map_nil]); first | done | rfl | (simp only [List.length_drop, List.length_take]; rfl)) ?_; (with_reducible refine (spec_UnitsOk.calls _ _ t219 false _ ?side1 ?side2 A16.out).mono ?_); (case side1 => repeat (first | exact (Kd.S_reads' HO223.out).2.2 | (with_reducible refine Kd.C_alloc ?_ _) | (with_reducible refine Kd.C_drewN ?_ _) | (with_reducible refine Kd.C_drew ?_))); (case side2 => exact (Kd.S_reads' HO223.out).2.1); rintro e w21 ⟨rfl, hb⟩; refine ⟨_, rfl, ?_⟩; have n0_ := Aside0.mk (Kd.S_below (by (with_reducible repeat (first | apply Kd.S_alloc | apply Kd.S_drewN | apply Kd.S_drew)); exact HO223.out) hb); have n1_ := Aside0.mk (Kd.S_below (by (with_reducible repeat (first | apply Kd.S_alloc | apply Kd.S_drewN | apply Kd.S_drew)); exact HO225.out) hb); have n2_ := Aside0.mk (Kd.R_below (by (with_reducible repeat (first | apply Kd.R_alloc | apply Kd.R_drewN | apply Kd.R_drew)); exact HO227.out) hb); have n3_ := Aside0.mk (Kd.R_below (by (with_reducible repeat (first | apply Kd.R_alloc | apply Kd.R_drewN | apply Kd.R_drew)); exact HO230.out) hb); have n4_ := Aside0.mk (below_step (by repeat (first | (with_reducible first | exact HB.out | apply below_alloc | apply pw_below_drewN | apply below_drew1) | exact HB.out)) hb); clear HO223; clear HO225; clear HO227; clear HO230; clear HB; have HO223 := n0_; have HO225 := n1_; have HO227 := n2_; have HO230 := n3_; have HB := n4_; clear n0_ n1_ n2_ n3_ n4_; (try clear hb); (try clear hb2); (try clear hk); (try clear hi)))
            go_meet
            case rel => exact ⟨_, (true), (by first | rfl | (simp; done) | (simp [*]; done)), H', ⟨by have := HJ2.out; first | omega | exact Nat.le_refl _⟩, ⟨by (with_reducible repeat (first | apply Kd.S_alloc | apply Kd.S_drewN | apply Kd.S_drew)); exact HO223.out⟩, ⟨by (with_reducible repeat (first | apply Kd.S_alloc | apply Kd.S_drewN | apply Kd.S_drew)); exact HO225.out⟩, ⟨by (with_reducible repeat (first | apply Kd.R_alloc | apply Kd.R_drewN | apply Kd.R_drew)); exact HO227.out⟩, ⟨by (with_reducible repeat (first | apply Kd.R_alloc | apply Kd.R_drewN | apply Kd.R_drew)); exact HO230.out⟩, ⟨by repeat (first | (with_reducible first | exact HB.out | apply below_alloc | apply pw_below_drewN | apply below_drew1) | exact HB.out)⟩⟩
        case rest =>
          clear HC10
          try clear c1
          try clear p2
          try clear c3
          try clear c5
          try clear c7
          try clear c8
          try clear c10
          try clear c13
          try clear c17
          try clear p2
          obtain ⟨kq, x41_9, rfl, HA, HJ9, HO_5, HO_6, HO_7, HO_8, HB⟩ := hcut
          cases kq with
          | zero => exact absurd HA.out (by simp [laws_FnPlanReaches.j1])
          | succ kj9 =>
            have H := HA.out
            clear HA
            simp only [laws_FnPlanReaches.j1] at H
            by_cases c22 : x41_9 = true
            · subst c22
              have H1 : (if (t228.length : Int) = 0 then ((impl_UnitsOk.f (([] : List (S32)))).bind fun t236 => (some t236)) else (some false)) = some r := by rw [if_pos rfl] at H; exact H
              clear H
              have H := H1
              clear H1
              by_cases c23 : (t228.length : Int) = 0
              · rw [if_pos c23] at H
                have c23b0 : ((t228.length : Int) == 0) = true := beq_iff_eq.mpr c23
                have c23b1 : ((t228.length : Int) != 0) = false := bne_eq_false_iff_eq.mpr c23
                clear c23
                obtain ⟨y233, hy233⟩ : ∃ y_ : List (S32), y_ = (([] : List (S32))) := ⟨_, rfl⟩
                replace H : ((impl_UnitsOk.f y233).bind fun t236 => (some t236)) = some r := by first | (rw [hy233]; with_reducible exact H) | (have H2_ := (Option.bind_some _ _).symm.trans H; rw [hy233]; with_reducible exact H2_) | (have H2_ := (Option.bind_some _ _).symm.trans H; with_reducible exact H2_) | with_reducible exact H | (rw [hy233]; exact H) | exact H
                have Ny233 := Aside0.mk hy233
                clear hy233
                replace H := Option.bind_eq_some_iff.mp H
                obtain ⟨t236, A240, H⟩ := H
                replace H : (some t236) = some r := H
                have A24 := Aside0.mk A240
                clear A240
                obtain rfl := Option.some.inj H
                obtain ⟨Ao25, co25, eo25⟩ := Kd.R_slice HO_8.out
                subst eo25
                go_wp2_with (first | ((with_reducible refine gate_dst (N := 46) rfl ?_); (try (refine gate_guard (by rfl) ?_; dsimp only)); refine Kd.S_lit k32 _ 32 ?hg (N := 46) ?hd (xs := ([] : List (S32))) (inner := []) (ok := fun _ => True) (okp := fun _ => True) ?hr ?hp (fun _ hk => hk) trivial (Below.refl _ _) (Nat.le_refl _) (by simp) ?_; (case hd => rfl); (case hg => rfl); (case hr => first | (go_simp; done) | (go_simp; rfl)); (case hp => exact (Reps.none _ _)); intro v234 w26 ho27 hb hg_ hnew_; clear hg_ hnew_; (first | rw [← Ny233.out] at ho27 | (simp only [Int.reduceToNat] at ho27; rw [← Ny233.out] at ho27)); have n0_ := Aside0.mk (Kd.S_elder' (by (with_reducible repeat (first | apply Kd.S_alloc | apply Kd.S_drewN | apply Kd.S_drew)); exact HO_5.out) (Kd.S_base ho27) hb); have n1_ := Aside0.mk (Kd.S_elder' (by (with_reducible repeat (first | apply Kd.S_alloc | apply Kd.S_drewN | apply Kd.S_drew)); exact HO_6.out) (Kd.S_base ho27) hb); have n2_ := Aside0.mk (Kd.R_below (by (with_reducible repeat (first | apply Kd.R_alloc | apply Kd.R_drewN | apply Kd.R_drew)); exact HO_7.out) hb); have n3_ := Aside0.mk (Kd.R_below (by (with_reducible repeat (first | apply Kd.R_alloc | apply Kd.R_drewN | apply Kd.R_drew)); exact HO_8.out) hb); have n4_ := Aside0.mk (Kd.S_lower (Kd.S_new' (Kd.S_new' (Kd.S_new' ho27 (Kd.S_lt (by (with_reducible repeat (first | apply Kd.S_alloc | apply Kd.S_drewN | apply Kd.S_drew)); exact HO_5.out))) (Kd.S_lt (by (with_reducible repeat (first | apply Kd.S_alloc | apply Kd.S_drewN | apply Kd.S_drew)); exact HO_6.out))) (Kd.R_lt (by (with_reducible repeat (first | apply Kd.R_alloc | apply Kd.R_drewN | apply Kd.R_drew)); exact HO_7.out))) (below_size (by repeat (first | (with_reducible first | exact HB.out | apply below_alloc | apply pw_below_drewN | apply below_drew1) | exact HB.out)))); have n5_ := Aside0.mk (below_step (by repeat (first | (with_reducible first | exact HB.out | apply below_alloc | apply pw_below_drewN | apply below_drew1) | exact HB.out)) hb); clear HO_5; clear HO_6; clear HO_7; clear HO_8; clear HB; have HO_5 := n0_; have HO_6 := n1_; have HO_7 := n2_; have HO_8 := n3_; have HO235 := n4_; have HB := n5_; clear n0_ n1_ n2_ n3_ n4_ n5_; clear hb ho27; obtain ⟨Ao28, co28, eo28⟩ := Kd.S_slice HO235.out; subst eo28) | (go_at_call 14; (with_reducible refine (impl_UnitsOk.calls _ _ y233 t236 _ ?side1 ?side2 A24.out).mono ?_); (case side1 => repeat (first | exact (Kd.S_reads' HO235.out).2.2 | (with_reducible refine Kd.C_alloc ?_ _) | (with_reducible refine Kd.C_drewN ?_ _) | (with_reducible refine Kd.C_drew ?_))); (case side2 => exact (Kd.S_reads' HO235.out).2.1); rintro e w29 ⟨rfl, hb⟩; have n0_ := Aside0.mk (Kd.S_below (by (with_reducible repeat (first | apply Kd.S_alloc | apply Kd.S_drewN | apply Kd.S_drew)); exact HO_5.out) hb); have n1_ := Aside0.mk (Kd.S_below (by (with_reducible repeat (first | apply Kd.S_alloc | apply Kd.S_drewN | apply Kd.S_drew)); exact HO_6.out) hb); have n2_ := Aside0.mk (Kd.R_below (by (with_reducible repeat (first | apply Kd.R_alloc | apply Kd.R_drewN | apply Kd.R_drew)); exact HO_7.out) hb); have n3_ := Aside0.mk (Kd.R_below (by (with_reducible repeat (first | apply Kd.R_alloc | apply Kd.R_drewN | apply Kd.R_drew)); exact HO_8.out) hb); have n4_ := Aside0.mk (Kd.S_below (by (with_reducible repeat (first | apply Kd.S_alloc | apply Kd.S_drewN | apply Kd.S_drew)); exact HO235.out) hb); have n5_ := Aside0.mk (below_step (by repeat (first | (with_reducible first | exact HB.out | apply below_alloc | apply pw_below_drewN | apply below_drew1) | exact HB.out)) hb); clear HO_5; clear HO_6; clear HO_7; clear HO_8; clear HO235; clear HB; have HO_5 := n0_; have HO_6 := n1_; have HO_7 := n2_; have HO_8 := n3_; have HO235 := n4_; have HB := n5_; clear n0_ n1_ n2_ n3_ n4_ n5_; (try clear hb); (try clear hb2); (try clear hk); (try clear hi)))
                go_ret
                exact ⟨by first | rfl | (simp [errW_none, errW_some] <;> rfl) | (simp [*, errW_none, errW_some] <;> rfl), by repeat (first | (with_reducible first | exact HB.out | apply below_alloc | apply pw_below_drewN | apply below_drew1) | exact HB.out)⟩
              · rw [if_neg c23] at H
                have c23b0 : ((t228.length : Int) == 0) = false := beq_eq_false_iff_ne.mpr c23
                have c23b1 : ((t228.length : Int) != 0) = true := bne_iff_ne.mpr c23
                have c23b2 : ¬ (t228 = []) := fun h_ => c23 (by rw [h_]; rfl)
                obtain rfl := Option.some.inj H
                obtain ⟨Ao30, co30, eo30⟩ := Kd.R_slice HO_8.out
                subst eo30
                go_wp2
                go_ret
                exact ⟨by first | rfl | (simp [errW_none, errW_some] <;> rfl) | (simp [*, errW_none, errW_some] <;> rfl), by repeat (first | (with_reducible first | exact HB.out | apply below_alloc | apply pw_below_drewN | apply below_drew1) | exact HB.out)⟩
            · replace c22 := Bool.eq_false_iff.mpr c22
              subst c22
              have H1 : ((impl_ApplyActs.f t221 t228).bind fun t237 => ((spec_StartOrder.f kj9 t220).bind fun bt240 => (laws_FnPlanReaches.l0 kj9 l1 t219 t220 t221 t228 t237 bt240.1 0))) = some r := by rw [if_neg (show ¬ (false = true) by decide)] at H; exact H
              clear H
              have H := H1
              clear H1
              replace H := Option.bind_eq_some_iff.mp H
              obtain ⟨t237, A310, H⟩ := H
              replace H : ((spec_StartOrder.f kj9 t220).bind fun bt240 => (laws_FnPlanReaches.l0 kj9 l1 t219 t220 t221 t228 t237 bt240.1 0)) = some r := H
              have A31 := Aside0.mk A310
              clear A310
              replace H := Option.bind_eq_some_iff.mp H
              obtain ⟨⟨t240, t241⟩, A320, H⟩ := H
              replace H : (laws_FnPlanReaches.l0 kj9 l1 t219 t220 t221 t228 t237 t240 0) = some r := H
              have A32 := Aside0.mk A320
              clear A320
              have H' := Aside0.mk H
              clear H
              obtain ⟨Ao33, co33, eo33⟩ := Kd.R_slice HO_8.out
              subst eo33
              go_wp2_with (first | ((with_reducible refine gate_callee (f := 35) rfl ?_); refine goesL_ (some 51) rfl rfl Try.func35 (by kernel_rfl) rfl #[.slice Ao14 t221.length co14, .slice Ao33 t228.length co33] rfl (by (try simp only [List.map_toArray, List.map_cons, List.map_nil]); first | done | rfl | (simp only [List.length_drop, List.length_take]; rfl)) ?_; (with_reducible refine (impl_ApplyActs.calls _ _ t221 _ _ t228 t237 _ ?side1 ?side2 ?side3 ?side4 A31.out).mono ?_); (case side1 => repeat (first | exact (Kd.R_reads' HO_7.out).2.2 | (with_reducible refine Kd.C_alloc ?_ _) | (with_reducible refine Kd.C_drewN ?_ _) | (with_reducible refine Kd.C_drew ?_))); (case side2 => exact (Kd.R_reads' HO_7.out).2.1); (case side3 => repeat (first | exact (Kd.R_reads' HO_8.out).2.2 | (with_reducible refine Kd.C_alloc ?_ _) | (with_reducible refine Kd.C_drewN ?_ _) | (with_reducible refine Kd.C_drew ?_))); (case side4 => exact (Kd.R_reads' HO_8.out).2.1); rintro e w34 ⟨v238, rfl, ho0, hb⟩; refine ⟨_, rfl, ?_⟩; have n0_ := Aside0.mk (Kd.S_elder' (by (with_reducible repeat (first | apply Kd.S_alloc | apply Kd.S_drewN | apply Kd.S_drew)); exact HO_5.out) (Kd.R_base ho0) hb); have n1_ := Aside0.mk (Kd.S_elder' (by (with_reducible repeat (first | apply Kd.S_alloc | apply Kd.S_drewN | apply Kd.S_drew)); exact HO_6.out) (Kd.R_base ho0) hb); have n2_ := Aside0.mk (Kd.R_elder' (by (with_reducible repeat (first | apply Kd.R_alloc | apply Kd.R_drewN | apply Kd.R_drew)); exact HO_7.out) (Kd.R_base ho0) hb); have n3_ := Aside0.mk (Kd.R_below (by (with_reducible repeat (first | apply Kd.R_alloc | apply Kd.R_drewN | apply Kd.R_drew)); exact HO_8.out) hb); have n4_ := Aside0.mk (Kd.R_lower (Kd.R_new' ho0 (Kd.R_lt (by (with_reducible repeat (first | apply Kd.R_alloc | apply Kd.R_drewN | apply Kd.R_drew)); exact HO_7.out))) (below_size (by repeat (first | (with_reducible first | exact HB.out | apply below_alloc | apply pw_below_drewN | apply below_drew1) | exact HB.out)))); have n5_ := Aside0.mk (below_step (by repeat (first | (with_reducible first | exact HB.out | apply below_alloc | apply pw_below_drewN | apply below_drew1) | exact HB.out)) hb); clear HO_5; clear HO_6; clear HO_7; clear HO_8; clear HB; have HO_5 := n0_; have HO_6 := n1_; have HO_7 := n2_; have HO_8 := n3_; have HO239 := n4_; have HB := n5_; clear n0_ n1_ n2_ n3_ n4_ n5_; (try clear hb); (try clear hb2); (try clear hk); (try clear hi); (try clear ho0)) | ((with_reducible refine gate_callee (f := 27) rfl ?_); refine goesL_ (some 54) rfl rfl Try.func27 (by kernel_rfl) rfl #[.slice Ao13 t220.length co13] rfl (by (try simp only [List.map_toArray, List.map_cons, List.map_nil]); first | done | rfl | (simp only [List.length_drop, List.length_take]; rfl)) ?_; (with_reducible refine (spec_StartOrder.calls kj9 _ _ t220 t240 t241 _ ?side1 ?side2 A32.out).mono ?_); (case side1 => repeat (first | exact (Kd.S_reads' HO_6.out).2.2 | (with_reducible refine Kd.C_alloc ?_ _) | (with_reducible refine Kd.C_drewN ?_ _) | (with_reducible refine Kd.C_drew ?_))); (case side2 => exact (Kd.S_reads' HO_6.out).2.1); rintro e w35 ⟨v242, rfl, ho0, hb⟩; refine ⟨_, rfl, ?_⟩; have n0_ := Aside0.mk (Kd.S_elder' (by (with_reducible repeat (first | apply Kd.S_alloc | apply Kd.S_drewN | apply Kd.S_drew)); exact HO_5.out) (Kd.R_base ho0) hb); have n1_ := Aside0.mk (Kd.S_elder' (by (with_reducible repeat (first | apply Kd.S_alloc | apply Kd.S_drewN | apply Kd.S_drew)); exact HO_6.out) (Kd.R_base ho0) hb); have n2_ := Aside0.mk (Kd.R_elder' (by (with_reducible repeat (first | apply Kd.R_alloc | apply Kd.R_drewN | apply Kd.R_drew)); exact HO_7.out) (Kd.R_base ho0) hb); have n3_ := Aside0.mk (Kd.R_below (by (with_reducible repeat (first | apply Kd.R_alloc | apply Kd.R_drewN | apply Kd.R_drew)); exact HO_8.out) hb); have n4_ := Aside0.mk (Kd.R_elder' (by (with_reducible repeat (first | apply Kd.R_alloc | apply Kd.R_drewN | apply Kd.R_drew)); exact HO239.out) (Kd.R_base ho0) hb); have n5_ := Aside0.mk (Kd.R_lower (Kd.R_new' (Kd.R_new' ho0 (Kd.R_lt (by (with_reducible repeat (first | apply Kd.R_alloc | apply Kd.R_drewN | apply Kd.R_drew)); exact HO_7.out))) (Kd.R_lt (by (with_reducible repeat (first | apply Kd.R_alloc | apply Kd.R_drewN | apply Kd.R_drew)); exact HO239.out))) (below_size (by repeat (first | (with_reducible first | exact HB.out | apply below_alloc | apply pw_below_drewN | apply below_drew1) | exact HB.out)))); have n6_ := Aside0.mk (below_step (by repeat (first | (with_reducible first | exact HB.out | apply below_alloc | apply pw_below_drewN | apply below_drew1) | exact HB.out)) hb); clear HO_5; clear HO_6; clear HO_7; clear HO_8; clear HO239; clear HB; have HO_5 := n0_; have HO_6 := n1_; have HO_7 := n2_; have HO_8 := n3_; have HO239 := n4_; have HO243 := n5_; have HB := n6_; clear n0_ n1_ n2_ n3_ n4_ n5_ n6_; (try clear hb); (try clear hb2); (try clear hk); (try clear hi); (try clear ho0)))
              go_loopg [12] kj9 (fun kq v12 w' => ∃ (x12_3 : Int), v12 = .int .i64 x12_3 ∧ Aside0 (laws_FnPlanReaches.l0 kq l1 t219 t220 t221 t228 t237 t240 x12_3 = some r) ∧ Aside0 (kq ≤ kj9) ∧ Aside0 (Kd.S k32 32 w' w.heap.size (fun k_ => some k_ ≠ ((.slice Ao13 t220.length co13) : Value).ownBlock ∧ some k_ ≠ ((.slice Ao14 t221.length co14) : Value).ownBlock ∧ some k_ ≠ (v238 : Value).ownBlock ∧ some k_ ≠ (v242 : Value).ownBlock) (.slice Ao12 t219.length co12) t219) ∧ Aside0 (Kd.S k32 32 w' w.heap.size (fun k_ => some k_ ≠ ((.slice Ao12 t219.length co12) : Value).ownBlock ∧ some k_ ≠ ((.slice Ao14 t221.length co14) : Value).ownBlock ∧ some k_ ≠ (v238 : Value).ownBlock ∧ some k_ ≠ (v242 : Value).ownBlock) (.slice Ao13 t220.length co13) t220) ∧ Aside0 (Kd.R Kd.string 9 w' w.heap.size (fun k_ => some k_ ≠ (v238 : Value).ownBlock ∧ some k_ ≠ (v242 : Value).ownBlock) (.slice Ao14 t221.length co14) t221) ∧ Aside0 (Kd.R k55 55 w' w.heap.size (fun _ => True) (.slice Ao33 t228.length co33) t228) ∧ Aside0 (Kd.R Kd.string 9 w' w.heap.size (fun k_ => some k_ ≠ ((.slice Ao14 t221.length co14) : Value).ownBlock ∧ some k_ ≠ (v242 : Value).ownBlock) v238 t237) ∧ Aside0 (Kd.R Kd.string 9 w' w.heap.size (fun k_ => some k_ ≠ ((.slice Ao14 t221.length co14) : Value).ownBlock ∧ some k_ ≠ (v238 : Value).ownBlock) v242 t240) ∧ Aside0 (Below w.heap.size w w'))
              case atStart => exact ⟨(0), (by first | rfl | (simp; done) | (simp [*]; done)), H', ⟨Nat.le_refl _⟩, ⟨by (with_reducible repeat (first | apply Kd.S_alloc | apply Kd.S_drewN | apply Kd.S_drew)); exact Kd.S_mono HO_5.out (fun _ hk => ⟨hk.1.1.1, ⟨hk.1.1.2, ⟨hk.1.2, hk.2⟩⟩⟩)⟩, ⟨by (with_reducible repeat (first | apply Kd.S_alloc | apply Kd.S_drewN | apply Kd.S_drew)); exact Kd.S_mono HO_6.out (fun _ hk => ⟨hk.1.1.1, ⟨hk.1.1.2, ⟨hk.1.2, hk.2⟩⟩⟩)⟩, ⟨by (with_reducible repeat (first | apply Kd.R_alloc | apply Kd.R_drewN | apply Kd.R_drew)); exact Kd.R_mono HO_7.out (fun _ hk => ⟨hk.1.2, hk.2⟩)⟩, ⟨by (with_reducible repeat (first | apply Kd.R_alloc | apply Kd.R_drewN | apply Kd.R_drew)); exact HO_8.out⟩, ⟨by (with_reducible repeat (first | apply Kd.R_alloc | apply Kd.R_drewN | apply Kd.R_drew)); exact Kd.R_mono HO239.out (fun _ hk => ⟨hk.1.2, hk.2⟩)⟩, ⟨by (with_reducible repeat (first | apply Kd.R_alloc | apply Kd.R_drewN | apply Kd.R_drew)); exact Kd.R_mono HO243.out (fun _ hk => ⟨hk.1.2, hk.2⟩)⟩, ⟨by repeat (first | (with_reducible first | exact HB.out | apply below_alloc | apply pw_below_drewN | apply below_drew1) | exact HB.out)⟩⟩
              case round =>
                clear H'
                try clear c1
                try clear c2
                try clear p2
                try clear c3
                try clear c5
                try clear c7
                try clear c8
                try clear c10
                try clear c13
                try clear c17
                try clear c22
                try clear c23
                try clear c23b0
                try clear c23b1
                try clear c23b2
                try clear c27
                try clear c33
                try clear c34
                try clear c35
                try clear p2
                obtain ⟨x12_3, rfl, HA, HK3, HO_5, HO_6, HO_7, HO_8, HO_9, HO_10, HB⟩ := hrel
                cases gk with
                | zero => exact absurd HA.out (by simp [laws_FnPlanReaches.l0])
                | succ k3 =>
                  have H := HA.out
                  clear HA
                  simp only [laws_FnPlanReaches.l0] at H
                  by_cases c36 : x12_3 < (t240.length : Int)
                  · rw [if_pos c36] at H
                    have c36b0 : decide (x12_3 < (t240.length : Int)) = true := decide_eq_true c36
                    clear c36
                    by_cases c37 : 0 ≤ x12_3
                    · rw [if_pos c37] at H
                      have c37b0 : decide (0 ≤ x12_3) = true := decide_eq_true c37
                      clear c37
                      replace H := Option.bind_eq_some_iff.mp H
                      obtain ⟨t245, A380, H⟩ := H
                      replace H : (if t245 = true then (laws_FnPlanReaches.l0 k3 l1 t219 t220 t221 t228 t237 t240 (wrap64 (x12_3 + 1))) else (some false)) = some r := H
                      have A38 := Aside0.mk A380
                      clear A380
                      by_cases c39 : t245 = true
                      · subst c39
                        have H1 : (laws_FnPlanReaches.l0 k3 l1 t219 t220 t221 t228 t237 t240 (wrap64 (x12_3 + 1))) = some r := by rw [if_pos rfl] at H; exact H
                        clear H
                        have H := H1
                        clear H1
                        have H' := Aside0.mk H
                        clear H
                        obtain ⟨Ao40, co40, eo40⟩ := Kd.R_slice HO_10.out
                        subst eo40
                        have p244 : 0 ≤ (x12_3 : Int) := of_decide_eq_true (by first | (with_reducible assumption) | assumption)
                        have q244 : x12_3 < (t240.length : Int) := of_decide_eq_true (by first | (with_reducible assumption) | assumption)
                        obtain ⟨ad244, e244, hx244_0⟩ := Kd.at_string (Kd.R_reads' HO_10.out).2.2 x12_3 p244 q244
                        cases e244
                        replace p244 := eq_true p244
                        replace q244 := eq_true q244
                        obtain ⟨Ao41, co41, eo41⟩ := Kd.R_slice HO_9.out
                        subst eo41
                        go_wp2_with (first | ((with_reducible refine gate_callee (f := 16) rfl ?_); refine goesL_ (some 68) rfl rfl Try.func16 (by kernel_rfl) rfl #[.slice Ao41 t237.length co41, .string (rdOf ByteArray.empty t240 x12_3)] rfl (by (try simp only [List.map_toArray, List.map_cons, List.map_nil]); first | done | rfl | (simp only [List.length_drop, List.length_take]; rfl)) ?_; (with_reducible refine (laws_has.calls k3 _ _ t237 (rdOf ByteArray.empty t240 x12_3) true _ ?side1 ?side2 A38.out).mono ?_); (case side1 => repeat (first | exact (Kd.R_reads' HO_9.out).2.2 | (with_reducible refine Kd.C_alloc ?_ _) | (with_reducible refine Kd.C_drewN ?_ _) | (with_reducible refine Kd.C_drew ?_))); (case side2 => exact (Kd.R_reads' HO_9.out).2.1); rintro e w' ⟨rfl, ⟨nd, rfl⟩⟩; refine ⟨_, rfl, ?_⟩))
                        go_roundg k3
                        case measure => have := HJ2.out; have := HJ9.out; have := HK3.out; omega
                        case rel => exact ⟨(wrap64 (x12_3 + 1)), (by first | rfl | (simp; done) | (simp [*]; done)), H', ⟨by have := HJ2.out; have := HJ9.out; have := HK3.out; omega⟩, ⟨by (with_reducible repeat (first | apply Kd.S_alloc | apply Kd.S_drewN | apply Kd.S_drew)); exact HO_5.out⟩, ⟨by (with_reducible repeat (first | apply Kd.S_alloc | apply Kd.S_drewN | apply Kd.S_drew)); exact HO_6.out⟩, ⟨by (with_reducible repeat (first | apply Kd.R_alloc | apply Kd.R_drewN | apply Kd.R_drew)); exact HO_7.out⟩, ⟨by (with_reducible repeat (first | apply Kd.R_alloc | apply Kd.R_drewN | apply Kd.R_drew)); exact HO_8.out⟩, ⟨by (with_reducible repeat (first | apply Kd.R_alloc | apply Kd.R_drewN | apply Kd.R_drew)); exact HO_9.out⟩, ⟨by (with_reducible repeat (first | apply Kd.R_alloc | apply Kd.R_drewN | apply Kd.R_drew)); exact HO_10.out⟩, ⟨by repeat (first | (with_reducible first | exact HB.out | apply below_alloc | apply pw_below_drewN | apply below_drew1) | exact HB.out)⟩⟩
                      · replace c39 := Bool.eq_false_iff.mpr c39
                        subst c39
                        have H1 : (some false) = some r := by rw [if_neg (show ¬ (false = true) by decide)] at H; exact H
                        clear H
                        have H := H1
                        clear H1
                        obtain rfl := Option.some.inj H
                        obtain ⟨Ao42, co42, eo42⟩ := Kd.R_slice HO_10.out
                        subst eo42
                        have p244 : 0 ≤ (x12_3 : Int) := of_decide_eq_true (by first | (with_reducible assumption) | assumption)
                        have q244 : x12_3 < (t240.length : Int) := of_decide_eq_true (by first | (with_reducible assumption) | assumption)
                        obtain ⟨ad244, e244, hx244_0⟩ := Kd.at_string (Kd.R_reads' HO_10.out).2.2 x12_3 p244 q244
                        cases e244
                        replace p244 := eq_true p244
                        replace q244 := eq_true q244
                        obtain ⟨Ao43, co43, eo43⟩ := Kd.R_slice HO_9.out
                        subst eo43
                        go_wp2_with (first | ((with_reducible refine gate_callee (f := 16) rfl ?_); refine goesL_ (some 68) rfl rfl Try.func16 (by kernel_rfl) rfl #[.slice Ao43 t237.length co43, .string (rdOf ByteArray.empty t240 x12_3)] rfl (by (try simp only [List.map_toArray, List.map_cons, List.map_nil]); first | done | rfl | (simp only [List.length_drop, List.length_take]; rfl)) ?_; (with_reducible refine (laws_has.calls k3 _ _ t237 (rdOf ByteArray.empty t240 x12_3) false _ ?side1 ?side2 A38.out).mono ?_); (case side1 => repeat (first | exact (Kd.R_reads' HO_9.out).2.2 | (with_reducible refine Kd.C_alloc ?_ _) | (with_reducible refine Kd.C_drewN ?_ _) | (with_reducible refine Kd.C_drew ?_))); (case side2 => exact (Kd.R_reads' HO_9.out).2.1); rintro e w' ⟨rfl, ⟨nd, rfl⟩⟩; refine ⟨_, rfl, ?_⟩))
                        go_ret
                        exact ⟨by first | rfl | (simp [errW_none, errW_some] <;> rfl) | (simp [*, errW_none, errW_some] <;> rfl), by repeat (first | (with_reducible first | exact HB.out | apply below_alloc | apply pw_below_drewN | apply below_drew1) | exact HB.out)⟩
                    · rw [if_neg c37] at H
                      exact absurd H (by simp)
                  · rw [if_neg c36] at H
                    have c36b0 : decide (x12_3 < (t240.length : Int)) = false := decide_eq_false c36
                    clear c36
                    have H' := Aside0.mk H
                    clear H
                    obtain ⟨Ao44, co44, eo44⟩ := Kd.R_slice HO_10.out
                    subst eo44
                    go_wp2
                    go_loopg [13] k3 (fun kq v13 w' => ∃ (x13_4 : Int), v13 = .int .i64 x13_4 ∧ Aside0 (laws_FnPlanReaches.l1 kq l1 t219 t220 t221 t228 t237 t240 x13_4 = some r) ∧ Aside0 (kq ≤ k3) ∧ Aside0 (Kd.S k32 32 w' w.heap.size (fun k_ => some k_ ≠ ((.slice Ao13 t220.length co13) : Value).ownBlock ∧ some k_ ≠ ((.slice Ao14 t221.length co14) : Value).ownBlock ∧ some k_ ≠ (v238 : Value).ownBlock ∧ some k_ ≠ ((.slice Ao44 t240.length co44) : Value).ownBlock) (.slice Ao12 t219.length co12) t219) ∧ Aside0 (Kd.S k32 32 w' w.heap.size (fun k_ => some k_ ≠ ((.slice Ao12 t219.length co12) : Value).ownBlock ∧ some k_ ≠ ((.slice Ao14 t221.length co14) : Value).ownBlock ∧ some k_ ≠ (v238 : Value).ownBlock ∧ some k_ ≠ ((.slice Ao44 t240.length co44) : Value).ownBlock) (.slice Ao13 t220.length co13) t220) ∧ Aside0 (Kd.R Kd.string 9 w' w.heap.size (fun k_ => some k_ ≠ (v238 : Value).ownBlock ∧ some k_ ≠ ((.slice Ao44 t240.length co44) : Value).ownBlock) (.slice Ao14 t221.length co14) t221) ∧ Aside0 (Kd.R k55 55 w' w.heap.size (fun _ => True) (.slice Ao33 t228.length co33) t228) ∧ Aside0 (Kd.R Kd.string 9 w' w.heap.size (fun k_ => some k_ ≠ ((.slice Ao14 t221.length co14) : Value).ownBlock ∧ some k_ ≠ ((.slice Ao44 t240.length co44) : Value).ownBlock) v238 t237) ∧ Aside0 (Kd.R Kd.string 9 w' w.heap.size (fun k_ => some k_ ≠ ((.slice Ao14 t221.length co14) : Value).ownBlock ∧ some k_ ≠ (v238 : Value).ownBlock) (.slice Ao44 t240.length co44) t240) ∧ Aside0 (Below w.heap.size w w'))
                    case atStart => exact ⟨(0), (by first | rfl | (simp; done) | (simp [*]; done)), H', ⟨Nat.le_refl _⟩, ⟨by (with_reducible repeat (first | apply Kd.S_alloc | apply Kd.S_drewN | apply Kd.S_drew)); exact HO_5.out⟩, ⟨by (with_reducible repeat (first | apply Kd.S_alloc | apply Kd.S_drewN | apply Kd.S_drew)); exact HO_6.out⟩, ⟨by (with_reducible repeat (first | apply Kd.R_alloc | apply Kd.R_drewN | apply Kd.R_drew)); exact HO_7.out⟩, ⟨by (with_reducible repeat (first | apply Kd.R_alloc | apply Kd.R_drewN | apply Kd.R_drew)); exact HO_8.out⟩, ⟨by (with_reducible repeat (first | apply Kd.R_alloc | apply Kd.R_drewN | apply Kd.R_drew)); exact HO_9.out⟩, ⟨by (with_reducible repeat (first | apply Kd.R_alloc | apply Kd.R_drewN | apply Kd.R_drew)); exact HO_10.out⟩, ⟨by repeat (first | (with_reducible first | exact HB.out | apply below_alloc | apply pw_below_drewN | apply below_drew1) | exact HB.out)⟩⟩
                    case round =>
                      clear H'
                      try clear c1
                      try clear c2
                      try clear p2
                      try clear q2
                      try clear hx2
                      try clear c3
                      try clear c5
                      try clear p6
                      try clear c7
                      try clear c8
                      try clear c10
                      try clear c13
                      try clear c16
                      try clear c17
                      try clear c22
                      try clear c23
                      try clear c23b0
                      try clear c23b1
                      try clear c23b2
                      try clear p24
                      try clear q24
                      try clear hx24
                      try clear c27
                      try clear c33
                      try clear c34
                      try clear c35
                      try clear c36
                      try clear c36b0
                      try clear c37
                      try clear c37b0
                      try clear c39
                      try clear hx244_0
                      try clear p2
                      try clear p244
                      try clear q244
                      obtain ⟨x13_4, rfl, HA, HK4, HO_5, HO_6, HO_7, HO_8, HO_9, HO_10, HB⟩ := hrel
                      cases gk with
                      | zero => exact absurd HA.out (by simp [laws_FnPlanReaches.l1])
                      | succ k4 =>
                        have H := HA.out
                        clear HA
                        simp only [laws_FnPlanReaches.l1] at H
                        by_cases c45 : x13_4 < (t237.length : Int)
                        · rw [if_pos c45] at H
                          have c45b0 : decide (x13_4 < (t237.length : Int)) = true := decide_eq_true c45
                          clear c45
                          by_cases c46 : 0 ≤ x13_4
                          · rw [if_pos c46] at H
                            have c46b0 : decide (0 ≤ x13_4) = true := decide_eq_true c46
                            clear c46
                            replace H := Option.bind_eq_some_iff.mp H
                            obtain ⟨t247, A470, H⟩ := H
                            replace H : (if t247 < 0 then ((laws_unit.f k4 t219 (rdOf ByteArray.empty t237 x13_4)).bind fun t249 => (if t249 ≥ 0 then (some false) else ((laws_has.f k4 t240 (rdOf ByteArray.empty t237 x13_4)).bind fun t251 => (if t251 = true then (laws_FnPlanReaches.l1 k4 l1 t219 t220 t221 t228 t237 t240 (wrap64 (x13_4 + 1))) else ((laws_has.f k4 t221 (rdOf ByteArray.empty t237 x13_4)).bind fun t253 => (if t253 = true then (laws_FnPlanReaches.l1 k4 l1 t219 t220 t221 t228 t237 t240 (wrap64 (x13_4 + 1))) else (some false))))))) else ((laws_has.f k4 t240 (rdOf ByteArray.empty t237 x13_4)).bind fun t255 => (if t255 = true then (laws_FnPlanReaches.l1 k4 l1 t219 t220 t221 t228 t237 t240 (wrap64 (x13_4 + 1))) else ((laws_has.f k4 t221 (rdOf ByteArray.empty t237 x13_4)).bind fun t257 => (if t257 = true then (laws_FnPlanReaches.l1 k4 l1 t219 t220 t221 t228 t237 t240 (wrap64 (x13_4 + 1))) else (some false)))))) = some r := H
                            have A47 := Aside0.mk A470
                            clear A470
                            by_cases c48 : t247 < 0
                            · rw [if_pos c48] at H
                              have c48b0 : decide (t247 < 0) = true := decide_eq_true c48
                              clear c48
                              replace H := Option.bind_eq_some_iff.mp H
                              obtain ⟨t249, A490, H⟩ := H
                              replace H : (if t249 ≥ 0 then (some false) else ((laws_has.f k4 t240 (rdOf ByteArray.empty t237 x13_4)).bind fun t251 => (if t251 = true then (laws_FnPlanReaches.l1 k4 l1 t219 t220 t221 t228 t237 t240 (wrap64 (x13_4 + 1))) else ((laws_has.f k4 t221 (rdOf ByteArray.empty t237 x13_4)).bind fun t253 => (if t253 = true then (laws_FnPlanReaches.l1 k4 l1 t219 t220 t221 t228 t237 t240 (wrap64 (x13_4 + 1))) else (some false)))))) = some r := H
                              have A49 := Aside0.mk A490
                              clear A490
                              by_cases c50 : t249 ≥ 0
                              · rw [if_pos c50] at H
                                have c50b0 : decide (0 ≤ t249) = true := decide_eq_true c50
                                clear c50
                                obtain rfl := Option.some.inj H
                                obtain ⟨Ao51, co51, eo51⟩ := Kd.R_slice HO_9.out
                                subst eo51
                                have p246 : 0 ≤ (x13_4 : Int) := of_decide_eq_true (by first | (with_reducible assumption) | assumption)
                                have q246 : x13_4 < (t237.length : Int) := of_decide_eq_true (by first | (with_reducible assumption) | assumption)
                                obtain ⟨ad246, e246, hx246_0⟩ := Kd.at_string (Kd.R_reads' HO_9.out).2.2 x13_4 p246 q246
                                cases e246
                                replace p246 := eq_true p246
                                replace q246 := eq_true q246
                                go_wp2_with (first | ((with_reducible refine gate_callee (f := 17) rfl ?_); refine goesL_ (some 81) rfl rfl Try.func17 (by kernel_rfl) rfl #[.slice Ao13 t220.length co13, .string (rdOf ByteArray.empty t237 x13_4)] rfl (by (try simp only [List.map_toArray, List.map_cons, List.map_nil]); first | done | rfl | (simp only [List.length_drop, List.length_take]; rfl)) ?_; (with_reducible refine (laws_unit.calls k4 _ _ t220 (rdOf ByteArray.empty t237 x13_4) t247 _ ?side1 ?side2 A47.out).mono ?_); (case side1 => repeat (first | exact (Kd.S_reads' HO_6.out).2.2 | (with_reducible refine Kd.C_alloc ?_ _) | (with_reducible refine Kd.C_drewN ?_ _) | (with_reducible refine Kd.C_drew ?_))); (case side2 => exact (Kd.S_reads' HO_6.out).2.1); rintro e w' ⟨rfl, ⟨nd, rfl⟩⟩; refine ⟨_, rfl, ?_⟩; have p248 : 0 ≤ (x13_4 : Int) := of_decide_eq_true (by first | (with_reducible assumption) | assumption); have q248 : x13_4 < (t237.length : Int) := of_decide_eq_true (by first | (with_reducible assumption) | assumption); obtain ⟨ad248, e248, hx248_0⟩ := Kd.at_string (Kd.R_reads' HO_9.out).2.2 x13_4 p248 q248; obtain rfl : ad246 = ad248 := (by injection e248); replace p248 := eq_true p248; replace q248 := eq_true q248) | (go_at_call 17; (with_reducible refine (laws_unit.calls k4 _ _ t219 (rdOf ByteArray.empty t237 x13_4) t249 _ ?side1 ?side2 A49.out).mono ?_); (case side1 => repeat (first | exact (Kd.S_reads' HO_5.out).2.2 | (with_reducible refine Kd.C_alloc ?_ _) | (with_reducible refine Kd.C_drewN ?_ _) | (with_reducible refine Kd.C_drew ?_))); (case side2 => exact (Kd.S_reads' HO_5.out).2.1); rintro e w' ⟨rfl, ⟨nd, rfl⟩⟩))
                                go_ret
                                exact ⟨by first | rfl | (simp [errW_none, errW_some] <;> rfl) | (simp [*, errW_none, errW_some] <;> rfl), by repeat (first | (with_reducible first | exact HB.out | apply below_alloc | apply pw_below_drewN | apply below_drew1) | exact HB.out)⟩
                              · rw [if_neg c50] at H
                                have c50b0 : decide (0 ≤ t249) = false := decide_eq_false c50
                                clear c50
                                replace H := Option.bind_eq_some_iff.mp H
                                obtain ⟨t251, A520, H⟩ := H
                                replace H : (if t251 = true then (laws_FnPlanReaches.l1 k4 l1 t219 t220 t221 t228 t237 t240 (wrap64 (x13_4 + 1))) else ((laws_has.f k4 t221 (rdOf ByteArray.empty t237 x13_4)).bind fun t253 => (if t253 = true then (laws_FnPlanReaches.l1 k4 l1 t219 t220 t221 t228 t237 t240 (wrap64 (x13_4 + 1))) else (some false)))) = some r := H
                                have A52 := Aside0.mk A520
                                clear A520
                                by_cases c53 : t251 = true
                                · subst c53
                                  have H1 : (laws_FnPlanReaches.l1 k4 l1 t219 t220 t221 t228 t237 t240 (wrap64 (x13_4 + 1))) = some r := by rw [if_pos rfl] at H; exact H
                                  clear H
                                  have H := H1
                                  clear H1
                                  have H' := Aside0.mk H
                                  clear H
                                  obtain ⟨Ao54, co54, eo54⟩ := Kd.R_slice HO_9.out
                                  subst eo54
                                  have p246 : 0 ≤ (x13_4 : Int) := of_decide_eq_true (by first | (with_reducible assumption) | assumption)
                                  have q246 : x13_4 < (t237.length : Int) := of_decide_eq_true (by first | (with_reducible assumption) | assumption)
                                  obtain ⟨ad246, e246, hx246_0⟩ := Kd.at_string (Kd.R_reads' HO_9.out).2.2 x13_4 p246 q246
                                  cases e246
                                  replace p246 := eq_true p246
                                  replace q246 := eq_true q246
                                  go_wp2_with (first | ((with_reducible refine gate_callee (f := 17) rfl ?_); refine goesL_ (some 81) rfl rfl Try.func17 (by kernel_rfl) rfl #[.slice Ao13 t220.length co13, .string (rdOf ByteArray.empty t237 x13_4)] rfl (by (try simp only [List.map_toArray, List.map_cons, List.map_nil]); first | done | rfl | (simp only [List.length_drop, List.length_take]; rfl)) ?_; (with_reducible refine (laws_unit.calls k4 _ _ t220 (rdOf ByteArray.empty t237 x13_4) t247 _ ?side1 ?side2 A47.out).mono ?_); (case side1 => repeat (first | exact (Kd.S_reads' HO_6.out).2.2 | (with_reducible refine Kd.C_alloc ?_ _) | (with_reducible refine Kd.C_drewN ?_ _) | (with_reducible refine Kd.C_drew ?_))); (case side2 => exact (Kd.S_reads' HO_6.out).2.1); rintro e w' ⟨rfl, ⟨nd, rfl⟩⟩; refine ⟨_, rfl, ?_⟩; have p248 : 0 ≤ (x13_4 : Int) := of_decide_eq_true (by first | (with_reducible assumption) | assumption); have q248 : x13_4 < (t237.length : Int) := of_decide_eq_true (by first | (with_reducible assumption) | assumption); obtain ⟨ad248, e248, hx248_0⟩ := Kd.at_string (Kd.R_reads' HO_9.out).2.2 x13_4 p248 q248; obtain rfl : ad246 = ad248 := (by injection e248); replace p248 := eq_true p248; replace q248 := eq_true q248) | (go_at_call 17; (with_reducible refine (laws_unit.calls k4 _ _ t219 (rdOf ByteArray.empty t237 x13_4) t249 _ ?side1 ?side2 A49.out).mono ?_); (case side1 => repeat (first | exact (Kd.S_reads' HO_5.out).2.2 | (with_reducible refine Kd.C_alloc ?_ _) | (with_reducible refine Kd.C_drewN ?_ _) | (with_reducible refine Kd.C_drew ?_))); (case side2 => exact (Kd.S_reads' HO_5.out).2.1); rintro e w' ⟨rfl, ⟨nd, rfl⟩⟩; have p250 : 0 ≤ (x13_4 : Int) := of_decide_eq_true (by first | (with_reducible assumption) | assumption); have q250 : x13_4 < (t237.length : Int) := of_decide_eq_true (by first | (with_reducible assumption) | assumption); obtain ⟨ad250, e250, hx250_0⟩ := Kd.at_string (Kd.R_reads' HO_9.out).2.2 x13_4 p250 q250; obtain rfl : ad246 = ad250 := (by injection e250); replace p250 := eq_true p250; replace q250 := eq_true q250) | (go_at_call 16; (with_reducible refine (laws_has.calls k4 _ _ t240 (rdOf ByteArray.empty t237 x13_4) true _ ?side1 ?side2 A52.out).mono ?_); (case side1 => repeat (first | exact (Kd.R_reads' HO_10.out).2.2 | (with_reducible refine Kd.C_alloc ?_ _) | (with_reducible refine Kd.C_drewN ?_ _) | (with_reducible refine Kd.C_drew ?_))); (case side2 => exact (Kd.R_reads' HO_10.out).2.1); rintro e w' ⟨rfl, ⟨nd, rfl⟩⟩))
                                  go_roundg k4
                                  case measure => have := HJ2.out; have := HJ9.out; have := HK3.out; have := HK4.out; omega
                                  case rel => exact ⟨(wrap64 (x13_4 + 1)), (by first | rfl | (simp; done) | (simp [*]; done)), H', ⟨by have := HJ2.out; have := HJ9.out; have := HK3.out; have := HK4.out; omega⟩, ⟨by (with_reducible repeat (first | apply Kd.S_alloc | apply Kd.S_drewN | apply Kd.S_drew)); exact HO_5.out⟩, ⟨by (with_reducible repeat (first | apply Kd.S_alloc | apply Kd.S_drewN | apply Kd.S_drew)); exact HO_6.out⟩, ⟨by (with_reducible repeat (first | apply Kd.R_alloc | apply Kd.R_drewN | apply Kd.R_drew)); exact HO_7.out⟩, ⟨by (with_reducible repeat (first | apply Kd.R_alloc | apply Kd.R_drewN | apply Kd.R_drew)); exact HO_8.out⟩, ⟨by (with_reducible repeat (first | apply Kd.R_alloc | apply Kd.R_drewN | apply Kd.R_drew)); exact HO_9.out⟩, ⟨by (with_reducible repeat (first | apply Kd.R_alloc | apply Kd.R_drewN | apply Kd.R_drew)); exact HO_10.out⟩, ⟨by repeat (first | (with_reducible first | exact HB.out | apply below_alloc | apply pw_below_drewN | apply below_drew1) | exact HB.out)⟩⟩
                                · replace c53 := Bool.eq_false_iff.mpr c53
                                  subst c53
                                  have H1 : ((laws_has.f k4 t221 (rdOf ByteArray.empty t237 x13_4)).bind fun t253 => (if t253 = true then (laws_FnPlanReaches.l1 k4 l1 t219 t220 t221 t228 t237 t240 (wrap64 (x13_4 + 1))) else (some false))) = some r := by rw [if_neg (show ¬ (false = true) by decide)] at H; exact H
                                  clear H
                                  have H := H1
                                  clear H1
                                  replace H := Option.bind_eq_some_iff.mp H
                                  obtain ⟨t253, A550, H⟩ := H
                                  replace H : (if t253 = true then (laws_FnPlanReaches.l1 k4 l1 t219 t220 t221 t228 t237 t240 (wrap64 (x13_4 + 1))) else (some false)) = some r := H
                                  have A55 := Aside0.mk A550
                                  clear A550
                                  by_cases c56 : t253 = true
                                  · subst c56
                                    have H1 : (laws_FnPlanReaches.l1 k4 l1 t219 t220 t221 t228 t237 t240 (wrap64 (x13_4 + 1))) = some r := by rw [if_pos rfl] at H; exact H
                                    clear H
                                    have H := H1
                                    clear H1
                                    have H' := Aside0.mk H
                                    clear H
                                    obtain ⟨Ao57, co57, eo57⟩ := Kd.R_slice HO_9.out
                                    subst eo57
                                    have p246 : 0 ≤ (x13_4 : Int) := of_decide_eq_true (by first | (with_reducible assumption) | assumption)
                                    have q246 : x13_4 < (t237.length : Int) := of_decide_eq_true (by first | (with_reducible assumption) | assumption)
                                    obtain ⟨ad246, e246, hx246_0⟩ := Kd.at_string (Kd.R_reads' HO_9.out).2.2 x13_4 p246 q246
                                    cases e246
                                    replace p246 := eq_true p246
                                    replace q246 := eq_true q246
                                    go_wp2_with (first | ((with_reducible refine gate_callee (f := 17) rfl ?_); refine goesL_ (some 81) rfl rfl Try.func17 (by kernel_rfl) rfl #[.slice Ao13 t220.length co13, .string (rdOf ByteArray.empty t237 x13_4)] rfl (by (try simp only [List.map_toArray, List.map_cons, List.map_nil]); first | done | rfl | (simp only [List.length_drop, List.length_take]; rfl)) ?_; (with_reducible refine (laws_unit.calls k4 _ _ t220 (rdOf ByteArray.empty t237 x13_4) t247 _ ?side1 ?side2 A47.out).mono ?_); (case side1 => repeat (first | exact (Kd.S_reads' HO_6.out).2.2 | (with_reducible refine Kd.C_alloc ?_ _) | (with_reducible refine Kd.C_drewN ?_ _) | (with_reducible refine Kd.C_drew ?_))); (case side2 => exact (Kd.S_reads' HO_6.out).2.1); rintro e w' ⟨rfl, ⟨nd, rfl⟩⟩; refine ⟨_, rfl, ?_⟩; have p248 : 0 ≤ (x13_4 : Int) := of_decide_eq_true (by first | (with_reducible assumption) | assumption); have q248 : x13_4 < (t237.length : Int) := of_decide_eq_true (by first | (with_reducible assumption) | assumption); obtain ⟨ad248, e248, hx248_0⟩ := Kd.at_string (Kd.R_reads' HO_9.out).2.2 x13_4 p248 q248; obtain rfl : ad246 = ad248 := (by injection e248); replace p248 := eq_true p248; replace q248 := eq_true q248) | (go_at_call 17; (with_reducible refine (laws_unit.calls k4 _ _ t219 (rdOf ByteArray.empty t237 x13_4) t249 _ ?side1 ?side2 A49.out).mono ?_); (case side1 => repeat (first | exact (Kd.S_reads' HO_5.out).2.2 | (with_reducible refine Kd.C_alloc ?_ _) | (with_reducible refine Kd.C_drewN ?_ _) | (with_reducible refine Kd.C_drew ?_))); (case side2 => exact (Kd.S_reads' HO_5.out).2.1); rintro e w' ⟨rfl, ⟨nd, rfl⟩⟩; have p250 : 0 ≤ (x13_4 : Int) := of_decide_eq_true (by first | (with_reducible assumption) | assumption); have q250 : x13_4 < (t237.length : Int) := of_decide_eq_true (by first | (with_reducible assumption) | assumption); obtain ⟨ad250, e250, hx250_0⟩ := Kd.at_string (Kd.R_reads' HO_9.out).2.2 x13_4 p250 q250; obtain rfl : ad246 = ad250 := (by injection e250); replace p250 := eq_true p250; replace q250 := eq_true q250) | (go_at_call 16; (with_reducible refine (laws_has.calls k4 _ _ t240 (rdOf ByteArray.empty t237 x13_4) false _ ?side1 ?side2 A52.out).mono ?_); (case side1 => repeat (first | exact (Kd.R_reads' HO_10.out).2.2 | (with_reducible refine Kd.C_alloc ?_ _) | (with_reducible refine Kd.C_drewN ?_ _) | (with_reducible refine Kd.C_drew ?_))); (case side2 => exact (Kd.R_reads' HO_10.out).2.1); rintro e w' ⟨rfl, ⟨nd, rfl⟩⟩; have p252 : 0 ≤ (x13_4 : Int) := of_decide_eq_true (by first | (with_reducible assumption) | assumption); have q252 : x13_4 < (t237.length : Int) := of_decide_eq_true (by first | (with_reducible assumption) | assumption); obtain ⟨ad252, e252, hx252_0⟩ := Kd.at_string (Kd.R_reads' HO_9.out).2.2 x13_4 p252 q252; obtain rfl : ad246 = ad252 := (by injection e252); replace p252 := eq_true p252; replace q252 := eq_true q252) | (go_at_call 16; (with_reducible refine (laws_has.calls k4 _ _ t221 (rdOf ByteArray.empty t237 x13_4) true _ ?side1 ?side2 A55.out).mono ?_); (case side1 => repeat (first | exact (Kd.R_reads' HO_7.out).2.2 | (with_reducible refine Kd.C_alloc ?_ _) | (with_reducible refine Kd.C_drewN ?_ _) | (with_reducible refine Kd.C_drew ?_))); (case side2 => exact (Kd.R_reads' HO_7.out).2.1); rintro e w' ⟨rfl, ⟨nd, rfl⟩⟩))
                                    go_roundg k4
                                    case measure => have := HJ2.out; have := HJ9.out; have := HK3.out; have := HK4.out; omega
                                    case rel => exact ⟨(wrap64 (x13_4 + 1)), (by first | rfl | (simp; done) | (simp [*]; done)), H', ⟨by have := HJ2.out; have := HJ9.out; have := HK3.out; have := HK4.out; omega⟩, ⟨by (with_reducible repeat (first | apply Kd.S_alloc | apply Kd.S_drewN | apply Kd.S_drew)); exact HO_5.out⟩, ⟨by (with_reducible repeat (first | apply Kd.S_alloc | apply Kd.S_drewN | apply Kd.S_drew)); exact HO_6.out⟩, ⟨by (with_reducible repeat (first | apply Kd.R_alloc | apply Kd.R_drewN | apply Kd.R_drew)); exact HO_7.out⟩, ⟨by (with_reducible repeat (first | apply Kd.R_alloc | apply Kd.R_drewN | apply Kd.R_drew)); exact HO_8.out⟩, ⟨by (with_reducible repeat (first | apply Kd.R_alloc | apply Kd.R_drewN | apply Kd.R_drew)); exact HO_9.out⟩, ⟨by (with_reducible repeat (first | apply Kd.R_alloc | apply Kd.R_drewN | apply Kd.R_drew)); exact HO_10.out⟩, ⟨by repeat (first | (with_reducible first | exact HB.out | apply below_alloc | apply pw_below_drewN | apply below_drew1) | exact HB.out)⟩⟩
                                  · replace c56 := Bool.eq_false_iff.mpr c56
                                    subst c56
                                    have H1 : (some false) = some r := by rw [if_neg (show ¬ (false = true) by decide)] at H; exact H
                                    clear H
                                    have H := H1
                                    clear H1
                                    obtain rfl := Option.some.inj H
                                    obtain ⟨Ao58, co58, eo58⟩ := Kd.R_slice HO_9.out
                                    subst eo58
                                    have p246 : 0 ≤ (x13_4 : Int) := of_decide_eq_true (by first | (with_reducible assumption) | assumption)
                                    have q246 : x13_4 < (t237.length : Int) := of_decide_eq_true (by first | (with_reducible assumption) | assumption)
                                    obtain ⟨ad246, e246, hx246_0⟩ := Kd.at_string (Kd.R_reads' HO_9.out).2.2 x13_4 p246 q246
                                    cases e246
                                    replace p246 := eq_true p246
                                    replace q246 := eq_true q246
                                    go_wp2_with (first | ((with_reducible refine gate_callee (f := 17) rfl ?_); refine goesL_ (some 81) rfl rfl Try.func17 (by kernel_rfl) rfl #[.slice Ao13 t220.length co13, .string (rdOf ByteArray.empty t237 x13_4)] rfl (by (try simp only [List.map_toArray, List.map_cons, List.map_nil]); first | done | rfl | (simp only [List.length_drop, List.length_take]; rfl)) ?_; (with_reducible refine (laws_unit.calls k4 _ _ t220 (rdOf ByteArray.empty t237 x13_4) t247 _ ?side1 ?side2 A47.out).mono ?_); (case side1 => repeat (first | exact (Kd.S_reads' HO_6.out).2.2 | (with_reducible refine Kd.C_alloc ?_ _) | (with_reducible refine Kd.C_drewN ?_ _) | (with_reducible refine Kd.C_drew ?_))); (case side2 => exact (Kd.S_reads' HO_6.out).2.1); rintro e w' ⟨rfl, ⟨nd, rfl⟩⟩; refine ⟨_, rfl, ?_⟩; have p248 : 0 ≤ (x13_4 : Int) := of_decide_eq_true (by first | (with_reducible assumption) | assumption); have q248 : x13_4 < (t237.length : Int) := of_decide_eq_true (by first | (with_reducible assumption) | assumption); obtain ⟨ad248, e248, hx248_0⟩ := Kd.at_string (Kd.R_reads' HO_9.out).2.2 x13_4 p248 q248; obtain rfl : ad246 = ad248 := (by injection e248); replace p248 := eq_true p248; replace q248 := eq_true q248) | (go_at_call 17; (with_reducible refine (laws_unit.calls k4 _ _ t219 (rdOf ByteArray.empty t237 x13_4) t249 _ ?side1 ?side2 A49.out).mono ?_); (case side1 => repeat (first | exact (Kd.S_reads' HO_5.out).2.2 | (with_reducible refine Kd.C_alloc ?_ _) | (with_reducible refine Kd.C_drewN ?_ _) | (with_reducible refine Kd.C_drew ?_))); (case side2 => exact (Kd.S_reads' HO_5.out).2.1); rintro e w' ⟨rfl, ⟨nd, rfl⟩⟩; have p250 : 0 ≤ (x13_4 : Int) := of_decide_eq_true (by first | (with_reducible assumption) | assumption); have q250 : x13_4 < (t237.length : Int) := of_decide_eq_true (by first | (with_reducible assumption) | assumption); obtain ⟨ad250, e250, hx250_0⟩ := Kd.at_string (Kd.R_reads' HO_9.out).2.2 x13_4 p250 q250; obtain rfl : ad246 = ad250 := (by injection e250); replace p250 := eq_true p250; replace q250 := eq_true q250) | (go_at_call 16; (with_reducible refine (laws_has.calls k4 _ _ t240 (rdOf ByteArray.empty t237 x13_4) false _ ?side1 ?side2 A52.out).mono ?_); (case side1 => repeat (first | exact (Kd.R_reads' HO_10.out).2.2 | (with_reducible refine Kd.C_alloc ?_ _) | (with_reducible refine Kd.C_drewN ?_ _) | (with_reducible refine Kd.C_drew ?_))); (case side2 => exact (Kd.R_reads' HO_10.out).2.1); rintro e w' ⟨rfl, ⟨nd, rfl⟩⟩; have p252 : 0 ≤ (x13_4 : Int) := of_decide_eq_true (by first | (with_reducible assumption) | assumption); have q252 : x13_4 < (t237.length : Int) := of_decide_eq_true (by first | (with_reducible assumption) | assumption); obtain ⟨ad252, e252, hx252_0⟩ := Kd.at_string (Kd.R_reads' HO_9.out).2.2 x13_4 p252 q252; obtain rfl : ad246 = ad252 := (by injection e252); replace p252 := eq_true p252; replace q252 := eq_true q252) | (go_at_call 16; (with_reducible refine (laws_has.calls k4 _ _ t221 (rdOf ByteArray.empty t237 x13_4) false _ ?side1 ?side2 A55.out).mono ?_); (case side1 => repeat (first | exact (Kd.R_reads' HO_7.out).2.2 | (with_reducible refine Kd.C_alloc ?_ _) | (with_reducible refine Kd.C_drewN ?_ _) | (with_reducible refine Kd.C_drew ?_))); (case side2 => exact (Kd.R_reads' HO_7.out).2.1); rintro e w' ⟨rfl, ⟨nd, rfl⟩⟩))
                                    go_ret
                                    exact ⟨by first | rfl | (simp [errW_none, errW_some] <;> rfl) | (simp [*, errW_none, errW_some] <;> rfl), by repeat (first | (with_reducible first | exact HB.out | apply below_alloc | apply pw_below_drewN | apply below_drew1) | exact HB.out)⟩
                            · rw [if_neg c48] at H
                              have c48b0 : decide (t247 < 0) = false := decide_eq_false c48
                              clear c48
                              replace H := Option.bind_eq_some_iff.mp H
                              obtain ⟨t255, A590, H⟩ := H
                              replace H : (if t255 = true then (laws_FnPlanReaches.l1 k4 l1 t219 t220 t221 t228 t237 t240 (wrap64 (x13_4 + 1))) else ((laws_has.f k4 t221 (rdOf ByteArray.empty t237 x13_4)).bind fun t257 => (if t257 = true then (laws_FnPlanReaches.l1 k4 l1 t219 t220 t221 t228 t237 t240 (wrap64 (x13_4 + 1))) else (some false)))) = some r := H
                              have A59 := Aside0.mk A590
                              clear A590
                              by_cases c60 : t255 = true
                              · subst c60
                                have H1 : (laws_FnPlanReaches.l1 k4 l1 t219 t220 t221 t228 t237 t240 (wrap64 (x13_4 + 1))) = some r := by rw [if_pos rfl] at H; exact H
                                clear H
                                have H := H1
                                clear H1
                                have H' := Aside0.mk H
                                clear H
                                obtain ⟨Ao61, co61, eo61⟩ := Kd.R_slice HO_9.out
                                subst eo61
                                have p246 : 0 ≤ (x13_4 : Int) := of_decide_eq_true (by first | (with_reducible assumption) | assumption)
                                have q246 : x13_4 < (t237.length : Int) := of_decide_eq_true (by first | (with_reducible assumption) | assumption)
                                obtain ⟨ad246, e246, hx246_0⟩ := Kd.at_string (Kd.R_reads' HO_9.out).2.2 x13_4 p246 q246
                                cases e246
                                replace p246 := eq_true p246
                                replace q246 := eq_true q246
                                go_wp2_with (first | ((with_reducible refine gate_callee (f := 17) rfl ?_); refine goesL_ (some 81) rfl rfl Try.func17 (by kernel_rfl) rfl #[.slice Ao13 t220.length co13, .string (rdOf ByteArray.empty t237 x13_4)] rfl (by (try simp only [List.map_toArray, List.map_cons, List.map_nil]); first | done | rfl | (simp only [List.length_drop, List.length_take]; rfl)) ?_; (with_reducible refine (laws_unit.calls k4 _ _ t220 (rdOf ByteArray.empty t237 x13_4) t247 _ ?side1 ?side2 A47.out).mono ?_); (case side1 => repeat (first | exact (Kd.S_reads' HO_6.out).2.2 | (with_reducible refine Kd.C_alloc ?_ _) | (with_reducible refine Kd.C_drewN ?_ _) | (with_reducible refine Kd.C_drew ?_))); (case side2 => exact (Kd.S_reads' HO_6.out).2.1); rintro e w' ⟨rfl, ⟨nd, rfl⟩⟩; refine ⟨_, rfl, ?_⟩; have p254 : 0 ≤ (x13_4 : Int) := of_decide_eq_true (by first | (with_reducible assumption) | assumption); have q254 : x13_4 < (t237.length : Int) := of_decide_eq_true (by first | (with_reducible assumption) | assumption); obtain ⟨ad254, e254, hx254_0⟩ := Kd.at_string (Kd.R_reads' HO_9.out).2.2 x13_4 p254 q254; obtain rfl : ad246 = ad254 := (by injection e254); replace p254 := eq_true p254; replace q254 := eq_true q254) | (go_at_call 16; (with_reducible refine (laws_has.calls k4 _ _ t240 (rdOf ByteArray.empty t237 x13_4) true _ ?side1 ?side2 A59.out).mono ?_); (case side1 => repeat (first | exact (Kd.R_reads' HO_10.out).2.2 | (with_reducible refine Kd.C_alloc ?_ _) | (with_reducible refine Kd.C_drewN ?_ _) | (with_reducible refine Kd.C_drew ?_))); (case side2 => exact (Kd.R_reads' HO_10.out).2.1); rintro e w' ⟨rfl, ⟨nd, rfl⟩⟩))
                                go_roundg k4
                                case measure => have := HJ2.out; have := HJ9.out; have := HK3.out; have := HK4.out; omega
                                case rel => exact ⟨(wrap64 (x13_4 + 1)), (by first | rfl | (simp; done) | (simp [*]; done)), H', ⟨by have := HJ2.out; have := HJ9.out; have := HK3.out; have := HK4.out; omega⟩, ⟨by (with_reducible repeat (first | apply Kd.S_alloc | apply Kd.S_drewN | apply Kd.S_drew)); exact HO_5.out⟩, ⟨by (with_reducible repeat (first | apply Kd.S_alloc | apply Kd.S_drewN | apply Kd.S_drew)); exact HO_6.out⟩, ⟨by (with_reducible repeat (first | apply Kd.R_alloc | apply Kd.R_drewN | apply Kd.R_drew)); exact HO_7.out⟩, ⟨by (with_reducible repeat (first | apply Kd.R_alloc | apply Kd.R_drewN | apply Kd.R_drew)); exact HO_8.out⟩, ⟨by (with_reducible repeat (first | apply Kd.R_alloc | apply Kd.R_drewN | apply Kd.R_drew)); exact HO_9.out⟩, ⟨by (with_reducible repeat (first | apply Kd.R_alloc | apply Kd.R_drewN | apply Kd.R_drew)); exact HO_10.out⟩, ⟨by repeat (first | (with_reducible first | exact HB.out | apply below_alloc | apply pw_below_drewN | apply below_drew1) | exact HB.out)⟩⟩
                              · replace c60 := Bool.eq_false_iff.mpr c60
                                subst c60
                                have H1 : ((laws_has.f k4 t221 (rdOf ByteArray.empty t237 x13_4)).bind fun t257 => (if t257 = true then (laws_FnPlanReaches.l1 k4 l1 t219 t220 t221 t228 t237 t240 (wrap64 (x13_4 + 1))) else (some false))) = some r := by rw [if_neg (show ¬ (false = true) by decide)] at H; exact H
                                clear H
                                have H := H1
                                clear H1
                                replace H := Option.bind_eq_some_iff.mp H
                                obtain ⟨t257, A620, H⟩ := H
                                replace H : (if t257 = true then (laws_FnPlanReaches.l1 k4 l1 t219 t220 t221 t228 t237 t240 (wrap64 (x13_4 + 1))) else (some false)) = some r := H
                                have A62 := Aside0.mk A620
                                clear A620
                                by_cases c63 : t257 = true
                                · subst c63
                                  have H1 : (laws_FnPlanReaches.l1 k4 l1 t219 t220 t221 t228 t237 t240 (wrap64 (x13_4 + 1))) = some r := by rw [if_pos rfl] at H; exact H
                                  clear H
                                  have H := H1
                                  clear H1
                                  have H' := Aside0.mk H
                                  clear H
                                  obtain ⟨Ao64, co64, eo64⟩ := Kd.R_slice HO_9.out
                                  subst eo64
                                  have p246 : 0 ≤ (x13_4 : Int) := of_decide_eq_true (by first | (with_reducible assumption) | assumption)
                                  have q246 : x13_4 < (t237.length : Int) := of_decide_eq_true (by first | (with_reducible assumption) | assumption)
                                  obtain ⟨ad246, e246, hx246_0⟩ := Kd.at_string (Kd.R_reads' HO_9.out).2.2 x13_4 p246 q246
                                  cases e246
                                  replace p246 := eq_true p246
                                  replace q246 := eq_true q246
                                  go_wp2_with (first | ((with_reducible refine gate_callee (f := 17) rfl ?_); refine goesL_ (some 81) rfl rfl Try.func17 (by kernel_rfl) rfl #[.slice Ao13 t220.length co13, .string (rdOf ByteArray.empty t237 x13_4)] rfl (by (try simp only [List.map_toArray, List.map_cons, List.map_nil]); first | done | rfl | (simp only [List.length_drop, List.length_take]; rfl)) ?_; (with_reducible refine (laws_unit.calls k4 _ _ t220 (rdOf ByteArray.empty t237 x13_4) t247 _ ?side1 ?side2 A47.out).mono ?_); (case side1 => repeat (first | exact (Kd.S_reads' HO_6.out).2.2 | (with_reducible refine Kd.C_alloc ?_ _) | (with_reducible refine Kd.C_drewN ?_ _) | (with_reducible refine Kd.C_drew ?_))); (case side2 => exact (Kd.S_reads' HO_6.out).2.1); rintro e w' ⟨rfl, ⟨nd, rfl⟩⟩; refine ⟨_, rfl, ?_⟩; have p254 : 0 ≤ (x13_4 : Int) := of_decide_eq_true (by first | (with_reducible assumption) | assumption); have q254 : x13_4 < (t237.length : Int) := of_decide_eq_true (by first | (with_reducible assumption) | assumption); obtain ⟨ad254, e254, hx254_0⟩ := Kd.at_string (Kd.R_reads' HO_9.out).2.2 x13_4 p254 q254; obtain rfl : ad246 = ad254 := (by injection e254); replace p254 := eq_true p254; replace q254 := eq_true q254) | (go_at_call 16; (with_reducible refine (laws_has.calls k4 _ _ t240 (rdOf ByteArray.empty t237 x13_4) false _ ?side1 ?side2 A59.out).mono ?_); (case side1 => repeat (first | exact (Kd.R_reads' HO_10.out).2.2 | (with_reducible refine Kd.C_alloc ?_ _) | (with_reducible refine Kd.C_drewN ?_ _) | (with_reducible refine Kd.C_drew ?_))); (case side2 => exact (Kd.R_reads' HO_10.out).2.1); rintro e w' ⟨rfl, ⟨nd, rfl⟩⟩; have p256 : 0 ≤ (x13_4 : Int) := of_decide_eq_true (by first | (with_reducible assumption) | assumption); have q256 : x13_4 < (t237.length : Int) := of_decide_eq_true (by first | (with_reducible assumption) | assumption); obtain ⟨ad256, e256, hx256_0⟩ := Kd.at_string (Kd.R_reads' HO_9.out).2.2 x13_4 p256 q256; obtain rfl : ad246 = ad256 := (by injection e256); replace p256 := eq_true p256; replace q256 := eq_true q256) | (go_at_call 16; (with_reducible refine (laws_has.calls k4 _ _ t221 (rdOf ByteArray.empty t237 x13_4) true _ ?side1 ?side2 A62.out).mono ?_); (case side1 => repeat (first | exact (Kd.R_reads' HO_7.out).2.2 | (with_reducible refine Kd.C_alloc ?_ _) | (with_reducible refine Kd.C_drewN ?_ _) | (with_reducible refine Kd.C_drew ?_))); (case side2 => exact (Kd.R_reads' HO_7.out).2.1); rintro e w' ⟨rfl, ⟨nd, rfl⟩⟩))
                                  go_roundg k4
                                  case measure => have := HJ2.out; have := HJ9.out; have := HK3.out; have := HK4.out; omega
                                  case rel => exact ⟨(wrap64 (x13_4 + 1)), (by first | rfl | (simp; done) | (simp [*]; done)), H', ⟨by have := HJ2.out; have := HJ9.out; have := HK3.out; have := HK4.out; omega⟩, ⟨by (with_reducible repeat (first | apply Kd.S_alloc | apply Kd.S_drewN | apply Kd.S_drew)); exact HO_5.out⟩, ⟨by (with_reducible repeat (first | apply Kd.S_alloc | apply Kd.S_drewN | apply Kd.S_drew)); exact HO_6.out⟩, ⟨by (with_reducible repeat (first | apply Kd.R_alloc | apply Kd.R_drewN | apply Kd.R_drew)); exact HO_7.out⟩, ⟨by (with_reducible repeat (first | apply Kd.R_alloc | apply Kd.R_drewN | apply Kd.R_drew)); exact HO_8.out⟩, ⟨by (with_reducible repeat (first | apply Kd.R_alloc | apply Kd.R_drewN | apply Kd.R_drew)); exact HO_9.out⟩, ⟨by (with_reducible repeat (first | apply Kd.R_alloc | apply Kd.R_drewN | apply Kd.R_drew)); exact HO_10.out⟩, ⟨by repeat (first | (with_reducible first | exact HB.out | apply below_alloc | apply pw_below_drewN | apply below_drew1) | exact HB.out)⟩⟩
                                · replace c63 := Bool.eq_false_iff.mpr c63
                                  subst c63
                                  have H1 : (some false) = some r := by rw [if_neg (show ¬ (false = true) by decide)] at H; exact H
                                  clear H
                                  have H := H1
                                  clear H1
                                  obtain rfl := Option.some.inj H
                                  obtain ⟨Ao65, co65, eo65⟩ := Kd.R_slice HO_9.out
                                  subst eo65
                                  have p246 : 0 ≤ (x13_4 : Int) := of_decide_eq_true (by first | (with_reducible assumption) | assumption)
                                  have q246 : x13_4 < (t237.length : Int) := of_decide_eq_true (by first | (with_reducible assumption) | assumption)
                                  obtain ⟨ad246, e246, hx246_0⟩ := Kd.at_string (Kd.R_reads' HO_9.out).2.2 x13_4 p246 q246
                                  cases e246
                                  replace p246 := eq_true p246
                                  replace q246 := eq_true q246
                                  go_wp2_with (first | ((with_reducible refine gate_callee (f := 17) rfl ?_); refine goesL_ (some 81) rfl rfl Try.func17 (by kernel_rfl) rfl #[.slice Ao13 t220.length co13, .string (rdOf ByteArray.empty t237 x13_4)] rfl (by (try simp only [List.map_toArray, List.map_cons, List.map_nil]); first | done | rfl | (simp only [List.length_drop, List.length_take]; rfl)) ?_; (with_reducible refine (laws_unit.calls k4 _ _ t220 (rdOf ByteArray.empty t237 x13_4) t247 _ ?side1 ?side2 A47.out).mono ?_); (case side1 => repeat (first | exact (Kd.S_reads' HO_6.out).2.2 | (with_reducible refine Kd.C_alloc ?_ _) | (with_reducible refine Kd.C_drewN ?_ _) | (with_reducible refine Kd.C_drew ?_))); (case side2 => exact (Kd.S_reads' HO_6.out).2.1); rintro e w' ⟨rfl, ⟨nd, rfl⟩⟩; refine ⟨_, rfl, ?_⟩; have p254 : 0 ≤ (x13_4 : Int) := of_decide_eq_true (by first | (with_reducible assumption) | assumption); have q254 : x13_4 < (t237.length : Int) := of_decide_eq_true (by first | (with_reducible assumption) | assumption); obtain ⟨ad254, e254, hx254_0⟩ := Kd.at_string (Kd.R_reads' HO_9.out).2.2 x13_4 p254 q254; obtain rfl : ad246 = ad254 := (by injection e254); replace p254 := eq_true p254; replace q254 := eq_true q254) | (go_at_call 16; (with_reducible refine (laws_has.calls k4 _ _ t240 (rdOf ByteArray.empty t237 x13_4) false _ ?side1 ?side2 A59.out).mono ?_); (case side1 => repeat (first | exact (Kd.R_reads' HO_10.out).2.2 | (with_reducible refine Kd.C_alloc ?_ _) | (with_reducible refine Kd.C_drewN ?_ _) | (with_reducible refine Kd.C_drew ?_))); (case side2 => exact (Kd.R_reads' HO_10.out).2.1); rintro e w' ⟨rfl, ⟨nd, rfl⟩⟩; have p256 : 0 ≤ (x13_4 : Int) := of_decide_eq_true (by first | (with_reducible assumption) | assumption); have q256 : x13_4 < (t237.length : Int) := of_decide_eq_true (by first | (with_reducible assumption) | assumption); obtain ⟨ad256, e256, hx256_0⟩ := Kd.at_string (Kd.R_reads' HO_9.out).2.2 x13_4 p256 q256; obtain rfl : ad246 = ad256 := (by injection e256); replace p256 := eq_true p256; replace q256 := eq_true q256) | (go_at_call 16; (with_reducible refine (laws_has.calls k4 _ _ t221 (rdOf ByteArray.empty t237 x13_4) false _ ?side1 ?side2 A62.out).mono ?_); (case side1 => repeat (first | exact (Kd.R_reads' HO_7.out).2.2 | (with_reducible refine Kd.C_alloc ?_ _) | (with_reducible refine Kd.C_drewN ?_ _) | (with_reducible refine Kd.C_drew ?_))); (case side2 => exact (Kd.R_reads' HO_7.out).2.1); rintro e w' ⟨rfl, ⟨nd, rfl⟩⟩))
                                  go_ret
                                  exact ⟨by first | rfl | (simp [errW_none, errW_some] <;> rfl) | (simp [*, errW_none, errW_some] <;> rfl), by repeat (first | (with_reducible first | exact HB.out | apply below_alloc | apply pw_below_drewN | apply below_drew1) | exact HB.out)⟩
                          · rw [if_neg c46] at H
                            exact absurd H (by simp)
                        · rw [if_neg c45] at H
                          have c45b0 : decide (x13_4 < (t237.length : Int)) = false := decide_eq_false c45
                          clear c45
                          replace H := Option.bind_eq_some_iff.mp H
                          obtain ⟨t258, A660, H⟩ := H
                          replace H : (if (t228.length : Int) = (t258.length : Int) then (if (t228.length : Int) > 0 then (if (wrap64 ((t228.length : Int) + 1)) = 0 then (none) else (laws_FnPlanReaches.j4 k4 t219 t220 t221 t228 t237 ((l1.length : Int) % (wrap64 ((t228.length : Int) + 1))))) else (laws_FnPlanReaches.j4 k4 t219 t220 t221 t228 t237 0)) else (some false)) = some r := H
                          have A66 := Aside0.mk A660
                          clear A660
                          by_cases c67 : (t228.length : Int) = (t258.length : Int)
                          · rw [if_pos c67] at H
                            have c67b0 : ((t228.length : Int) == (t258.length : Int)) = true := beq_iff_eq.mpr c67
                            have c67b1 : ((t228.length : Int) != (t258.length : Int)) = false := bne_eq_false_iff_eq.mpr c67
                            have c67b2 : (t228.length == t258.length) = true := by first | simpa using c67 | (simp at c67 ⊢; omega)
                            clear c67
                            have HC68 := Aside0.mk H
                            clear H
                            obtain ⟨Ao69, co69, eo69⟩ := Kd.R_slice HO_9.out
                            subst eo69
                            go_upto_if 120 with (first | ((with_reducible refine gate_callee (f := 36) rfl ?_); refine goesL_ (some 115) rfl rfl Try.func36 (by kernel_rfl) rfl #[.slice Ao12 t219.length co12, .slice Ao13 t220.length co13, .slice Ao14 t221.length co14] rfl (by (try simp only [List.map_toArray, List.map_cons, List.map_nil]); first | done | rfl | (simp only [List.length_drop, List.length_take]; rfl)) ?_; (with_reducible refine (spec_PlanUnits.calls _ _ t219 _ _ t220 _ _ t221 t258 _ ?side1 ?side2 ?side3 ?side4 ?side5 ?side6 A66.out).mono ?_); (case side1 => repeat (first | exact (Kd.S_reads' HO_5.out).2.2 | (with_reducible refine Kd.C_alloc ?_ _) | (with_reducible refine Kd.C_drewN ?_ _) | (with_reducible refine Kd.C_drew ?_))); (case side2 => exact (Kd.S_reads' HO_5.out).2.1); (case side3 => repeat (first | exact (Kd.S_reads' HO_6.out).2.2 | (with_reducible refine Kd.C_alloc ?_ _) | (with_reducible refine Kd.C_drewN ?_ _) | (with_reducible refine Kd.C_drew ?_))); (case side4 => exact (Kd.S_reads' HO_6.out).2.1); (case side5 => repeat (first | exact (Kd.R_reads' HO_7.out).2.2 | (with_reducible refine Kd.C_alloc ?_ _) | (with_reducible refine Kd.C_drewN ?_ _) | (with_reducible refine Kd.C_drew ?_))); (case side6 => exact (Kd.R_reads' HO_7.out).2.1); rintro e w70 ⟨v259, rfl, ho0, hb⟩; refine ⟨_, rfl, ?_⟩; have n0_ := Aside0.mk (Kd.S_below (by (with_reducible repeat (first | apply Kd.S_alloc | apply Kd.S_drewN | apply Kd.S_drew)); exact HO_5.out) hb); have n1_ := Aside0.mk (Kd.S_below (by (with_reducible repeat (first | apply Kd.S_alloc | apply Kd.S_drewN | apply Kd.S_drew)); exact HO_6.out) hb); have n2_ := Aside0.mk (Kd.R_below (by (with_reducible repeat (first | apply Kd.R_alloc | apply Kd.R_drewN | apply Kd.R_drew)); exact HO_7.out) hb); have n3_ := Aside0.mk (Kd.R_elder' (by (with_reducible repeat (first | apply Kd.R_alloc | apply Kd.R_drewN | apply Kd.R_drew)); exact HO_8.out) (Kd.R_base ho0) hb); have n4_ := Aside0.mk (Kd.R_below (by (with_reducible repeat (first | apply Kd.R_alloc | apply Kd.R_drewN | apply Kd.R_drew)); exact HO_9.out) hb); have n5_ := Aside0.mk (Kd.R_below (by (with_reducible repeat (first | apply Kd.R_alloc | apply Kd.R_drewN | apply Kd.R_drew)); exact HO_10.out) hb); have n6_ := Aside0.mk (Kd.R_lower (Kd.R_new' ho0 (Kd.R_lt (by (with_reducible repeat (first | apply Kd.R_alloc | apply Kd.R_drewN | apply Kd.R_drew)); exact HO_8.out))) (below_size (by repeat (first | (with_reducible first | exact HB.out | apply below_alloc | apply pw_below_drewN | apply below_drew1) | exact HB.out)))); have n7_ := Aside0.mk (below_step (by repeat (first | (with_reducible first | exact HB.out | apply below_alloc | apply pw_below_drewN | apply below_drew1) | exact HB.out)) hb); clear HO_5; clear HO_6; clear HO_7; clear HO_8; clear HO_9; clear HO_10; clear HB; have HO_5 := n0_; have HO_6 := n1_; have HO_7 := n2_; have HO_8 := n3_; have HO_9 := n4_; have HO_10 := n5_; have HO260 := n6_; have HB := n7_; clear n0_ n1_ n2_ n3_ n4_ n5_ n6_ n7_; (try clear hb); (try clear hb2); (try clear hk); (try clear hi); (try clear ho0); obtain ⟨Ao71, co71, eo71⟩ := Kd.R_slice HO260.out; subst eo71))
                            (try simp only [Act.put, List.setIfInBounds_toArray, List.set_cons_zero, List.set_cons_succ])
                            go_cut [14] (fun v14 wc => ∃ (kq : Nat) (x14_67 : Int), v14 = .int .i64 x14_67 ∧ Aside0 (laws_FnPlanReaches.j4 kq t219 t220 t221 t228 t237 x14_67 = some r) ∧ Aside0 (kq ≤ k4) ∧ Aside0 (Kd.S k32 32 wc w.heap.size (fun k_ => some k_ ≠ ((.slice Ao13 t220.length co13) : Value).ownBlock ∧ some k_ ≠ ((.slice Ao14 t221.length co14) : Value).ownBlock ∧ some k_ ≠ ((.slice Ao69 t237.length co69) : Value).ownBlock) (.slice Ao12 t219.length co12) t219) ∧ Aside0 (Kd.S k32 32 wc w.heap.size (fun k_ => some k_ ≠ ((.slice Ao12 t219.length co12) : Value).ownBlock ∧ some k_ ≠ ((.slice Ao14 t221.length co14) : Value).ownBlock ∧ some k_ ≠ ((.slice Ao69 t237.length co69) : Value).ownBlock) (.slice Ao13 t220.length co13) t220) ∧ Aside0 (Kd.R Kd.string 9 wc w.heap.size (fun k_ => some k_ ≠ ((.slice Ao69 t237.length co69) : Value).ownBlock) (.slice Ao14 t221.length co14) t221) ∧ Aside0 (Kd.R k55 55 wc w.heap.size (fun _ => True) (.slice Ao33 t228.length co33) t228) ∧ Aside0 (Kd.R Kd.string 9 wc w.heap.size (fun k_ => some k_ ≠ ((.slice Ao14 t221.length co14) : Value).ownBlock) (.slice Ao69 t237.length co69) t237) ∧ Aside0 (Below w.heap.size w wc))
                            case first =>
                              have H := HC68.out
                              clear HC68
                              by_cases c72 : (t228.length : Int) > 0
                              · rw [if_pos c72] at H
                                have c72b0 : decide (0 < (t228.length : Int)) = true := decide_eq_true c72
                                have c72b1 : decide (0 < t228.length) = true := decide_eq_true (by omega)
                                have c72c : 0 < t228.length := of_decide_eq_true c72b1
                                clear c72
                                (first | rw [c72b0] | (simp only [i64_w, i32_w]; rw [c72b0]) | skip)
                                by_cases c73 : (wrap64 ((t228.length : Int) + 1)) = 0
                                · rw [if_pos c73] at H
                                  exact absurd H (by simp)
                                · rw [if_neg c73] at H
                                  have c73b0 : ((wrap64 ((t228.length : Int) + 1)) == 0) = false := beq_eq_false_iff_ne.mpr c73
                                  have c73b1 : ((wrap64 ((t228.length : Int) + 1)) != 0) = true := bne_iff_ne.mpr c73
                                  have H' := Aside0.mk H
                                  clear H
                                  go_wp2
                                  go_meet
                                  case rel => exact ⟨_, ((l1.length : Int) % (wrap64 ((t228.length : Int) + 1))), (by first | rfl | (simp; done) | (simp [*]; done)), H', ⟨by have := HJ2.out; have := HJ9.out; have := HK3.out; have := HK4.out; first | omega | exact Nat.le_refl _⟩, ⟨by (with_reducible repeat (first | apply Kd.S_alloc | apply Kd.S_drewN | apply Kd.S_drew)); exact Kd.S_mono HO_5.out (fun _ hk => ⟨hk.1, ⟨hk.2.1, hk.2.2.1⟩⟩)⟩, ⟨by (with_reducible repeat (first | apply Kd.S_alloc | apply Kd.S_drewN | apply Kd.S_drew)); exact Kd.S_mono HO_6.out (fun _ hk => ⟨hk.1, ⟨hk.2.1, hk.2.2.1⟩⟩)⟩, ⟨by (with_reducible repeat (first | apply Kd.R_alloc | apply Kd.R_drewN | apply Kd.R_drew)); exact Kd.R_mono HO_7.out (fun _ hk => hk.1)⟩, ⟨by (with_reducible repeat (first | apply Kd.R_alloc | apply Kd.R_drewN | apply Kd.R_drew)); exact Kd.R_mono HO_8.out (fun _ hk => trivial)⟩, ⟨by (with_reducible repeat (first | apply Kd.R_alloc | apply Kd.R_drewN | apply Kd.R_drew)); exact Kd.R_mono HO_9.out (fun _ hk => hk.1)⟩, ⟨by repeat (first | (with_reducible first | exact HB.out | apply below_alloc | apply pw_below_drewN | apply below_drew1) | exact HB.out)⟩⟩
                              · rw [if_neg c72] at H
                                have c72b0 : decide (0 < (t228.length : Int)) = false := decide_eq_false c72
                                have c72b1 : decide (0 < t228.length) = false := decide_eq_false (by omega)
                                have c72c : ¬ 0 < t228.length := of_decide_eq_false c72b1
                                clear c72
                                (first | rw [c72b0] | (simp only [i64_w, i32_w]; rw [c72b0]) | skip)
                                have H' := Aside0.mk H
                                clear H
                                go_wp2
                                go_meet
                                case rel => exact ⟨_, (0), (by first | rfl | (simp; done) | (simp [*]; done)), H', ⟨by have := HJ2.out; have := HJ9.out; have := HK3.out; have := HK4.out; first | omega | exact Nat.le_refl _⟩, ⟨by (with_reducible repeat (first | apply Kd.S_alloc | apply Kd.S_drewN | apply Kd.S_drew)); exact Kd.S_mono HO_5.out (fun _ hk => ⟨hk.1, ⟨hk.2.1, hk.2.2.1⟩⟩)⟩, ⟨by (with_reducible repeat (first | apply Kd.S_alloc | apply Kd.S_drewN | apply Kd.S_drew)); exact Kd.S_mono HO_6.out (fun _ hk => ⟨hk.1, ⟨hk.2.1, hk.2.2.1⟩⟩)⟩, ⟨by (with_reducible repeat (first | apply Kd.R_alloc | apply Kd.R_drewN | apply Kd.R_drew)); exact Kd.R_mono HO_7.out (fun _ hk => hk.1)⟩, ⟨by (with_reducible repeat (first | apply Kd.R_alloc | apply Kd.R_drewN | apply Kd.R_drew)); exact Kd.R_mono HO_8.out (fun _ hk => trivial)⟩, ⟨by (with_reducible repeat (first | apply Kd.R_alloc | apply Kd.R_drewN | apply Kd.R_drew)); exact Kd.R_mono HO_9.out (fun _ hk => hk.1)⟩, ⟨by repeat (first | (with_reducible first | exact HB.out | apply below_alloc | apply pw_below_drewN | apply below_drew1) | exact HB.out)⟩⟩
                            case rest =>
                              clear HC68
                              try clear c1
                              try clear c2
                              try clear p2
                              try clear q2
                              try clear hx2
                              try clear c3
                              try clear c4
                              try clear c5
                              try clear c6
                              try clear p6
                              try clear c7
                              try clear c8
                              try clear c10
                              try clear c13
                              try clear c16
                              try clear c17
                              try clear c22
                              try clear c23
                              try clear c23b0
                              try clear c23b1
                              try clear c23b2
                              try clear p24
                              try clear q24
                              try clear hx24
                              try clear p25
                              try clear q25
                              try clear hx25
                              try clear c27
                              try clear c33
                              try clear c34
                              try clear c35
                              try clear c36
                              try clear c36b0
                              try clear c37
                              try clear c37b0
                              try clear c39
                              try clear c45
                              try clear c45b0
                              try clear c46
                              try clear c46b0
                              try clear c48
                              try clear c48b0
                              try clear c50
                              try clear c50b0
                              try clear c53
                              try clear c56
                              try clear c60
                              try clear c63
                              try clear p64
                              try clear c67
                              try clear c67b0
                              try clear c67b1
                              try clear c67b2
                              try clear c72
                              try clear c72b0
                              try clear c72b1
                              try clear c73
                              try clear c73b0
                              try clear c73b1
                              try clear hx244_0
                              try clear hx246_0
                              try clear hx248_0
                              try clear hx250_0
                              try clear hx252_0
                              try clear hx254_0
                              try clear hx256_0
                              try clear p2
                              try clear p24
                              try clear p244
                              try clear p246
                              try clear p248
                              try clear p250
                              try clear p252
                              try clear p254
                              try clear p256
                              try clear p6
                              try clear q2
                              try clear q24
                              try clear q244
                              try clear q246
                              try clear q248
                              try clear q250
                              try clear q252
                              try clear q254
                              try clear q256
                              obtain ⟨kq, x14_67, rfl, HA, HJ67, HO_5, HO_6, HO_7, HO_8, HO_9, HB⟩ := hcut
                              cases kq with
                              | zero => exact absurd HA.out (by simp [laws_FnPlanReaches.j4])
                              | succ kj67 =>
                                have H := HA.out
                                clear HA
                                simp only [laws_FnPlanReaches.j4] at H
                                by_cases c74 : 0 ≤ x14_67
                                · rw [if_pos c74] at H
                                  have c74b0 := eq_true c74
                                  have c74b1 : decide (0 ≤ x14_67) = true := decide_eq_true c74
                                  clear c74
                                  by_cases c75 : x14_67 ≤ (t228.length : Int)
                                  · rw [if_pos c75] at H
                                    have c75b0 := eq_true c75
                                    have c75b1 : decide (x14_67 ≤ (t228.length : Int)) = true := decide_eq_true c75
                                    clear c75
                                    obtain ⟨y261, hy261⟩ : ∃ y_ : List (S55), y_ = (t228.take (x14_67 : Int).toNat) := ⟨_, rfl⟩
                                    replace H : ((impl_ApplyActs.f t221 y261).bind fun t265 => ((impl_PlanUnits.f t219 t220 t265).bind fun t268 => ((impl_ApplyActs.f t265 t268).bind fun t271 => ((laws_sameTexts.f kj67 t271 t237).bind fun t274 => (if t274 = true then ((impl_PlanUnits.f t219 t220 t237).bind fun t275 => (laws_FnPlanReaches.l2 kj67 t275 0)) else (some false)))))) = some r := by first | (rw [hy261]; with_reducible exact H) | (have H2_ := (Option.bind_some _ _).symm.trans H; rw [hy261]; with_reducible exact H2_) | (have H2_ := (Option.bind_some _ _).symm.trans H; with_reducible exact H2_) | with_reducible exact H | (rw [hy261]; exact H) | exact H
                                    have Ny261 := Aside0.mk hy261
                                    clear hy261
                                    replace H := Option.bind_eq_some_iff.mp H
                                    obtain ⟨t265, A760, H⟩ := H
                                    replace H : ((impl_PlanUnits.f t219 t220 t265).bind fun t268 => ((impl_ApplyActs.f t265 t268).bind fun t271 => ((laws_sameTexts.f kj67 t271 t237).bind fun t274 => (if t274 = true then ((impl_PlanUnits.f t219 t220 t237).bind fun t275 => (laws_FnPlanReaches.l2 kj67 t275 0)) else (some false))))) = some r := H
                                    have A76 := Aside0.mk A760
                                    clear A760
                                    replace H := Option.bind_eq_some_iff.mp H
                                    obtain ⟨t268, A770, H⟩ := H
                                    replace H : ((impl_ApplyActs.f t265 t268).bind fun t271 => ((laws_sameTexts.f kj67 t271 t237).bind fun t274 => (if t274 = true then ((impl_PlanUnits.f t219 t220 t237).bind fun t275 => (laws_FnPlanReaches.l2 kj67 t275 0)) else (some false)))) = some r := H
                                    have A77 := Aside0.mk A770
                                    clear A770
                                    replace H := Option.bind_eq_some_iff.mp H
                                    obtain ⟨t271, A780, H⟩ := H
                                    replace H : ((laws_sameTexts.f kj67 t271 t237).bind fun t274 => (if t274 = true then ((impl_PlanUnits.f t219 t220 t237).bind fun t275 => (laws_FnPlanReaches.l2 kj67 t275 0)) else (some false))) = some r := H
                                    have A78 := Aside0.mk A780
                                    clear A780
                                    replace H := Option.bind_eq_some_iff.mp H
                                    obtain ⟨t274, A790, H⟩ := H
                                    replace H : (if t274 = true then ((impl_PlanUnits.f t219 t220 t237).bind fun t275 => (laws_FnPlanReaches.l2 kj67 t275 0)) else (some false)) = some r := H
                                    have A79 := Aside0.mk A790
                                    clear A790
                                    by_cases c80 : t274 = true
                                    · subst c80
                                      have H1 : ((impl_PlanUnits.f t219 t220 t237).bind fun t275 => (laws_FnPlanReaches.l2 kj67 t275 0)) = some r := by rw [if_pos rfl] at H; exact H
                                      clear H
                                      have H := H1
                                      clear H1
                                      replace H := Option.bind_eq_some_iff.mp H
                                      obtain ⟨t275, A810, H⟩ := H
                                      replace H : (laws_FnPlanReaches.l2 kj67 t275 0) = some r := H
                                      have A81 := Aside0.mk A810
                                      clear A810
                                      have H' := Aside0.mk H
                                      clear H
                                      have q82 : (x14_67 : Int) ≤ ((t228.length : Int) : Int) := of_decide_eq_true (by first | (with_reducible assumption) | assumption)
                                      obtain ⟨i082, hi082, _, hsz82, _⟩ := info_parts info55
                                      have hroom82 : t228.length ≤ co33 := (Kd.R_reads' HO_8.out).2.1
                                      have hC82 : Kd.C k55 _ Ao33 t228.length t228 := (Kd.R_reads' HO_8.out).2.2
                                      have hcut82 := cut_to (P := Try.prog) 51 55 .i64 Try.underlying51 hi082 Ao33 t228.length co33 x14_67 (of_decide_eq_true (by first | (with_reducible assumption) | assumption)) q82 hroom82
                                      have hr82 := Kd.C_take (m := (x14_67 : Int).toNat) hC82 (by omega)
                                      have hy82 : y261.length = (x14_67 : Int).toNat := (by rw [Ny261.out, List.length_take]; omega)
                                      rw [← Ny261.out] at hr82
                                      rw [← hy82] at hcut82
                                      have HR264 := Aside0.mk hr82
                                      have HC264 := Aside0.mk (show y261.length ≤ co33 from by omega)
                                      clear hr82 hC82 hroom82 hi082 hsz82
                                      have KY82 := Aside0.mk hy82
                                      clear hy82
                                      have KL82 := Aside0.mk (show (x14_67 : Int).toNat ≤ t228.length from by omega)
                                      replace q82 := eq_true q82
                                      go_wp2_with (first | ((with_reducible refine gate_callee (f := 35) rfl ?_); refine goesL_ (some 131) rfl rfl Try.func35 (by kernel_rfl) rfl #[.slice Ao14 t221.length co14, .slice Ao33 y261.length co33] rfl (by (try simp only [List.map_toArray, List.map_cons, List.map_nil]); first | done | rfl | (simp only [List.length_drop, List.length_take]; rfl)) ?_; (with_reducible refine (impl_ApplyActs.calls _ _ t221 _ _ y261 t265 _ ?side1 ?side2 ?side3 ?side4 A76.out).mono ?_); (case side1 => repeat (first | exact (Kd.R_reads' HO_7.out).2.2 | (with_reducible refine Kd.C_alloc ?_ _) | (with_reducible refine Kd.C_drewN ?_ _) | (with_reducible refine Kd.C_drew ?_))); (case side2 => exact (Kd.R_reads' HO_7.out).2.1); (case side3 => repeat (first | exact (by repeat (first | (with_reducible exact HR264.out) | (with_reducible refine Kd.C_alloc ?_ _) | (with_reducible refine Kd.C_drewN ?_ _) | (with_reducible refine Kd.C_drew ?_) | exact HR264.out)) | (with_reducible refine Kd.C_alloc ?_ _) | (with_reducible refine Kd.C_drewN ?_ _) | (with_reducible refine Kd.C_drew ?_))); (case side4 => exact HC264.out); rintro e w83 ⟨v266, rfl, ho0, hb⟩; refine ⟨_, rfl, ?_⟩; have n0_ := Aside0.mk (Kd.S_elder' (by (with_reducible repeat (first | apply Kd.S_alloc | apply Kd.S_drewN | apply Kd.S_drew)); exact HO_5.out) (Kd.R_base ho0) hb); have n1_ := Aside0.mk (Kd.S_elder' (by (with_reducible repeat (first | apply Kd.S_alloc | apply Kd.S_drewN | apply Kd.S_drew)); exact HO_6.out) (Kd.R_base ho0) hb); have n2_ := Aside0.mk (Kd.R_elder' (by (with_reducible repeat (first | apply Kd.R_alloc | apply Kd.R_drewN | apply Kd.R_drew)); exact HO_7.out) (Kd.R_base ho0) hb); have n3_ := Aside0.mk (Kd.R_below (by (with_reducible repeat (first | apply Kd.R_alloc | apply Kd.R_drewN | apply Kd.R_drew)); exact HO_8.out) hb); have n4_ := Aside0.mk (Kd.R_elder' (by (with_reducible repeat (first | apply Kd.R_alloc | apply Kd.R_drewN | apply Kd.R_drew)); exact HO_9.out) (Kd.R_base ho0) hb); have n5_ := Aside0.mk (Kd.R_lower (Kd.R_new' (Kd.R_new' ho0 (Kd.R_lt (by (with_reducible repeat (first | apply Kd.R_alloc | apply Kd.R_drewN | apply Kd.R_drew)); exact HO_7.out))) (Kd.R_lt (by (with_reducible repeat (first | apply Kd.R_alloc | apply Kd.R_drewN | apply Kd.R_drew)); exact HO_9.out))) (below_size (by repeat (first | (with_reducible first | exact HB.out | apply below_alloc | apply pw_below_drewN | apply below_drew1) | exact HB.out)))); have n6_ := Aside0.mk (Kd.C_below (by repeat (first | (with_reducible exact HR264.out) | (with_reducible refine Kd.C_alloc ?_ _) | (with_reducible refine Kd.C_drewN ?_ _) | (with_reducible refine Kd.C_drew ?_) | exact HR264.out)) hb); have n7_ := Aside0.mk (below_step (by repeat (first | (with_reducible first | exact HB.out | apply below_alloc | apply pw_below_drewN | apply below_drew1) | exact HB.out)) hb); clear HO_5; clear HO_6; clear HO_7; clear HO_8; clear HO_9; clear HR264; clear HB; have HO_5 := n0_; have HO_6 := n1_; have HO_7 := n2_; have HO_8 := n3_; have HO_9 := n4_; have HO267 := n5_; have HR264 := n6_; have HB := n7_; clear n0_ n1_ n2_ n3_ n4_ n5_ n6_ n7_; (try clear hb); (try clear hb2); (try clear hk); (try clear hi); (try clear ho0); obtain ⟨Ao84, co84, eo84⟩ := Kd.R_slice HO267.out; subst eo84) | ((with_reducible refine gate_callee (f := 34) rfl ?_); refine goesL_ (some 136) rfl rfl Try.func34 (by kernel_rfl) rfl #[.slice Ao12 t219.length co12, .slice Ao13 t220.length co13, .slice Ao84 t265.length co84] rfl (by (try simp only [List.map_toArray, List.map_cons, List.map_nil]); first | done | rfl | (simp only [List.length_drop, List.length_take]; rfl)) ?_; (with_reducible refine (impl_PlanUnits.calls _ _ t219 _ _ t220 _ _ t265 t268 _ ?side1 ?side2 ?side3 ?side4 ?side5 ?side6 A77.out).mono ?_); (case side1 => repeat (first | exact (Kd.S_reads' HO_5.out).2.2 | (with_reducible refine Kd.C_alloc ?_ _) | (with_reducible refine Kd.C_drewN ?_ _) | (with_reducible refine Kd.C_drew ?_))); (case side2 => exact (Kd.S_reads' HO_5.out).2.1); (case side3 => repeat (first | exact (Kd.S_reads' HO_6.out).2.2 | (with_reducible refine Kd.C_alloc ?_ _) | (with_reducible refine Kd.C_drewN ?_ _) | (with_reducible refine Kd.C_drew ?_))); (case side4 => exact (Kd.S_reads' HO_6.out).2.1); (case side5 => repeat (first | exact (Kd.R_reads' HO267.out).2.2 | (with_reducible refine Kd.C_alloc ?_ _) | (with_reducible refine Kd.C_drewN ?_ _) | (with_reducible refine Kd.C_drew ?_))); (case side6 => exact (Kd.R_reads' HO267.out).2.1); rintro e w85 ⟨v269, rfl, ho0, hb⟩; refine ⟨_, rfl, ?_⟩; have n0_ := Aside0.mk (Kd.S_below (by (with_reducible repeat (first | apply Kd.S_alloc | apply Kd.S_drewN | apply Kd.S_drew)); exact HO_5.out) hb); have n1_ := Aside0.mk (Kd.S_below (by (with_reducible repeat (first | apply Kd.S_alloc | apply Kd.S_drewN | apply Kd.S_drew)); exact HO_6.out) hb); have n2_ := Aside0.mk (Kd.R_below (by (with_reducible repeat (first | apply Kd.R_alloc | apply Kd.R_drewN | apply Kd.R_drew)); exact HO_7.out) hb); have n3_ := Aside0.mk (Kd.R_elder' (by (with_reducible repeat (first | apply Kd.R_alloc | apply Kd.R_drewN | apply Kd.R_drew)); exact HO_8.out) (Kd.R_base ho0) hb); have n4_ := Aside0.mk (Kd.R_below (by (with_reducible repeat (first | apply Kd.R_alloc | apply Kd.R_drewN | apply Kd.R_drew)); exact HO_9.out) hb); have n5_ := Aside0.mk (Kd.R_below (by (with_reducible repeat (first | apply Kd.R_alloc | apply Kd.R_drewN | apply Kd.R_drew)); exact HO267.out) hb); have n6_ := Aside0.mk (Kd.R_lower (Kd.R_new' ho0 (Kd.R_lt (by (with_reducible repeat (first | apply Kd.R_alloc | apply Kd.R_drewN | apply Kd.R_drew)); exact HO_8.out))) (below_size (by repeat (first | (with_reducible first | exact HB.out | apply below_alloc | apply pw_below_drewN | apply below_drew1) | exact HB.out)))); have n7_ := Aside0.mk (Kd.C_below (by repeat (first | (with_reducible exact HR264.out) | (with_reducible refine Kd.C_alloc ?_ _) | (with_reducible refine Kd.C_drewN ?_ _) | (with_reducible refine Kd.C_drew ?_) | exact HR264.out)) hb); have n8_ := Aside0.mk (below_step (by repeat (first | (with_reducible first | exact HB.out | apply below_alloc | apply pw_below_drewN | apply below_drew1) | exact HB.out)) hb); clear HO_5; clear HO_6; clear HO_7; clear HO_8; clear HO_9; clear HO267; clear HR264; clear HB; have HO_5 := n0_; have HO_6 := n1_; have HO_7 := n2_; have HO_8 := n3_; have HO_9 := n4_; have HO267 := n5_; have HO270 := n6_; have HR264 := n7_; have HB := n8_; clear n0_ n1_ n2_ n3_ n4_ n5_ n6_ n7_ n8_; (try clear hb); (try clear hb2); (try clear hk); (try clear hi); (try clear ho0); obtain ⟨Ao86, co86, eo86⟩ := Kd.R_slice HO270.out; subst eo86) | ((with_reducible refine gate_callee (f := 35) rfl ?_); refine goesL_ (some 137) rfl rfl Try.func35 (by kernel_rfl) rfl #[.slice Ao84 t265.length co84, .slice Ao86 t268.length co86] rfl (by (try simp only [List.map_toArray, List.map_cons, List.map_nil]); first | done | rfl | (simp only [List.length_drop, List.length_take]; rfl)) ?_; (with_reducible refine (impl_ApplyActs.calls _ _ t265 _ _ t268 t271 _ ?side1 ?side2 ?side3 ?side4 A78.out).mono ?_); (case side1 => repeat (first | exact (Kd.R_reads' HO267.out).2.2 | (with_reducible refine Kd.C_alloc ?_ _) | (with_reducible refine Kd.C_drewN ?_ _) | (with_reducible refine Kd.C_drew ?_))); (case side2 => exact (Kd.R_reads' HO267.out).2.1); (case side3 => repeat (first | exact (Kd.R_reads' HO270.out).2.2 | (with_reducible refine Kd.C_alloc ?_ _) | (with_reducible refine Kd.C_drewN ?_ _) | (with_reducible refine Kd.C_drew ?_))); (case side4 => exact (Kd.R_reads' HO270.out).2.1); rintro e w87 ⟨v272, rfl, ho0, hb⟩; refine ⟨_, rfl, ?_⟩; have n0_ := Aside0.mk (Kd.S_elder' (by (with_reducible repeat (first | apply Kd.S_alloc | apply Kd.S_drewN | apply Kd.S_drew)); exact HO_5.out) (Kd.R_base ho0) hb); have n1_ := Aside0.mk (Kd.S_elder' (by (with_reducible repeat (first | apply Kd.S_alloc | apply Kd.S_drewN | apply Kd.S_drew)); exact HO_6.out) (Kd.R_base ho0) hb); have n2_ := Aside0.mk (Kd.R_elder' (by (with_reducible repeat (first | apply Kd.R_alloc | apply Kd.R_drewN | apply Kd.R_drew)); exact HO_7.out) (Kd.R_base ho0) hb); have n3_ := Aside0.mk (Kd.R_below (by (with_reducible repeat (first | apply Kd.R_alloc | apply Kd.R_drewN | apply Kd.R_drew)); exact HO_8.out) hb); have n4_ := Aside0.mk (Kd.R_elder' (by (with_reducible repeat (first | apply Kd.R_alloc | apply Kd.R_drewN | apply Kd.R_drew)); exact HO_9.out) (Kd.R_base ho0) hb); have n5_ := Aside0.mk (Kd.R_elder' (by (with_reducible repeat (first | apply Kd.R_alloc | apply Kd.R_drewN | apply Kd.R_drew)); exact HO267.out) (Kd.R_base ho0) hb); have n6_ := Aside0.mk (Kd.R_below (by (with_reducible repeat (first | apply Kd.R_alloc | apply Kd.R_drewN | apply Kd.R_drew)); exact HO270.out) hb); have n7_ := Aside0.mk (Kd.R_lower (Kd.R_new' (Kd.R_new' (Kd.R_new' ho0 (Kd.R_lt (by (with_reducible repeat (first | apply Kd.R_alloc | apply Kd.R_drewN | apply Kd.R_drew)); exact HO_7.out))) (Kd.R_lt (by (with_reducible repeat (first | apply Kd.R_alloc | apply Kd.R_drewN | apply Kd.R_drew)); exact HO_9.out))) (Kd.R_lt (by (with_reducible repeat (first | apply Kd.R_alloc | apply Kd.R_drewN | apply Kd.R_drew)); exact HO267.out))) (below_size (by repeat (first | (with_reducible first | exact HB.out | apply below_alloc | apply pw_below_drewN | apply below_drew1) | exact HB.out)))); have n8_ := Aside0.mk (Kd.C_below (by repeat (first | (with_reducible exact HR264.out) | (with_reducible refine Kd.C_alloc ?_ _) | (with_reducible refine Kd.C_drewN ?_ _) | (with_reducible refine Kd.C_drew ?_) | exact HR264.out)) hb); have n9_ := Aside0.mk (below_step (by repeat (first | (with_reducible first | exact HB.out | apply below_alloc | apply pw_below_drewN | apply below_drew1) | exact HB.out)) hb); clear HO_5; clear HO_6; clear HO_7; clear HO_8; clear HO_9; clear HO267; clear HO270; clear HR264; clear HB; have HO_5 := n0_; have HO_6 := n1_; have HO_7 := n2_; have HO_8 := n3_; have HO_9 := n4_; have HO267 := n5_; have HO270 := n6_; have HO273 := n7_; have HR264 := n8_; have HB := n9_; clear n0_ n1_ n2_ n3_ n4_ n5_ n6_ n7_ n8_ n9_; (try clear hb); (try clear hb2); (try clear hk); (try clear hi); (try clear ho0); obtain ⟨Ao88, co88, eo88⟩ := Kd.R_slice HO273.out; subst eo88) | ((with_reducible refine gate_callee (f := 37) rfl ?_); refine goesL_ (some 139) rfl rfl Try.func37 (by kernel_rfl) rfl #[.slice Ao88 t271.length co88, .slice Ao69 t237.length co69] rfl (by (try simp only [List.map_toArray, List.map_cons, List.map_nil]); first | done | rfl | (simp only [List.length_drop, List.length_take]; rfl)) ?_; (with_reducible refine (laws_sameTexts.calls kj67 _ _ t271 _ _ t237 true _ ?side1 ?side2 ?side3 ?side4 A79.out).mono ?_); (case side1 => repeat (first | exact (Kd.R_reads' HO273.out).2.2 | (with_reducible refine Kd.C_alloc ?_ _) | (with_reducible refine Kd.C_drewN ?_ _) | (with_reducible refine Kd.C_drew ?_))); (case side2 => exact (Kd.R_reads' HO273.out).2.1); (case side3 => repeat (first | exact (Kd.R_reads' HO_9.out).2.2 | (with_reducible refine Kd.C_alloc ?_ _) | (with_reducible refine Kd.C_drewN ?_ _) | (with_reducible refine Kd.C_drew ?_))); (case side4 => exact (Kd.R_reads' HO_9.out).2.1); rintro e w' ⟨rfl, ⟨nd, rfl⟩⟩; refine ⟨_, rfl, ?_⟩) | ((with_reducible refine gate_callee (f := 34) rfl ?_); refine goesL_ (some 144) rfl rfl Try.func34 (by kernel_rfl) rfl #[.slice Ao12 t219.length co12, .slice Ao13 t220.length co13, .slice Ao69 t237.length co69] rfl (by (try simp only [List.map_toArray, List.map_cons, List.map_nil]); first | done | rfl | (simp only [List.length_drop, List.length_take]; rfl)) ?_; (with_reducible refine (impl_PlanUnits.calls _ _ t219 _ _ t220 _ _ t237 t275 _ ?side1 ?side2 ?side3 ?side4 ?side5 ?side6 A81.out).mono ?_); (case side1 => repeat (first | exact (Kd.S_reads' HO_5.out).2.2 | (with_reducible refine Kd.C_alloc ?_ _) | (with_reducible refine Kd.C_drewN ?_ _) | (with_reducible refine Kd.C_drew ?_))); (case side2 => exact (Kd.S_reads' HO_5.out).2.1); (case side3 => repeat (first | exact (Kd.S_reads' HO_6.out).2.2 | (with_reducible refine Kd.C_alloc ?_ _) | (with_reducible refine Kd.C_drewN ?_ _) | (with_reducible refine Kd.C_drew ?_))); (case side4 => exact (Kd.S_reads' HO_6.out).2.1); (case side5 => repeat (first | exact (Kd.R_reads' HO_9.out).2.2 | (with_reducible refine Kd.C_alloc ?_ _) | (with_reducible refine Kd.C_drewN ?_ _) | (with_reducible refine Kd.C_drew ?_))); (case side6 => exact (Kd.R_reads' HO_9.out).2.1); rintro e w89 ⟨v276, rfl, ho0, hb⟩; refine ⟨_, rfl, ?_⟩; have n0_ := Aside0.mk (Kd.S_below (by (with_reducible repeat (first | apply Kd.S_alloc | apply Kd.S_drewN | apply Kd.S_drew)); exact HO_5.out) hb); have n1_ := Aside0.mk (Kd.S_below (by (with_reducible repeat (first | apply Kd.S_alloc | apply Kd.S_drewN | apply Kd.S_drew)); exact HO_6.out) hb); have n2_ := Aside0.mk (Kd.R_below (by (with_reducible repeat (first | apply Kd.R_alloc | apply Kd.R_drewN | apply Kd.R_drew)); exact HO_7.out) hb); have n3_ := Aside0.mk (Kd.R_elder' (by (with_reducible repeat (first | apply Kd.R_alloc | apply Kd.R_drewN | apply Kd.R_drew)); exact HO_8.out) (Kd.R_base ho0) hb); have n4_ := Aside0.mk (Kd.R_below (by (with_reducible repeat (first | apply Kd.R_alloc | apply Kd.R_drewN | apply Kd.R_drew)); exact HO_9.out) hb); have n5_ := Aside0.mk (Kd.R_below (by (with_reducible repeat (first | apply Kd.R_alloc | apply Kd.R_drewN | apply Kd.R_drew)); exact HO267.out) hb); have n6_ := Aside0.mk (Kd.R_elder' (by (with_reducible repeat (first | apply Kd.R_alloc | apply Kd.R_drewN | apply Kd.R_drew)); exact HO270.out) (Kd.R_base ho0) hb); have n7_ := Aside0.mk (Kd.R_below (by (with_reducible repeat (first | apply Kd.R_alloc | apply Kd.R_drewN | apply Kd.R_drew)); exact HO273.out) hb); have n8_ := Aside0.mk (Kd.R_lower (Kd.R_new' (Kd.R_new' ho0 (Kd.R_lt (by (with_reducible repeat (first | apply Kd.R_alloc | apply Kd.R_drewN | apply Kd.R_drew)); exact HO_8.out))) (Kd.R_lt (by (with_reducible repeat (first | apply Kd.R_alloc | apply Kd.R_drewN | apply Kd.R_drew)); exact HO270.out))) (below_size (by repeat (first | (with_reducible first | exact HB.out | apply below_alloc | apply pw_below_drewN | apply below_drew1) | exact HB.out)))); have n9_ := Aside0.mk (Kd.C_below (by repeat (first | (with_reducible exact HR264.out) | (with_reducible refine Kd.C_alloc ?_ _) | (with_reducible refine Kd.C_drewN ?_ _) | (with_reducible refine Kd.C_drew ?_) | exact HR264.out)) hb); have n10_ := Aside0.mk (below_step (by repeat (first | (with_reducible first | exact HB.out | apply below_alloc | apply pw_below_drewN | apply below_drew1) | exact HB.out)) hb); clear HO_5; clear HO_6; clear HO_7; clear HO_8; clear HO_9; clear HO267; clear HO270; clear HO273; clear HR264; clear HB; have HO_5 := n0_; have HO_6 := n1_; have HO_7 := n2_; have HO_8 := n3_; have HO_9 := n4_; have HO267 := n5_; have HO270 := n6_; have HO273 := n7_; have HO277 := n8_; have HR264 := n9_; have HB := n10_; clear n0_ n1_ n2_ n3_ n4_ n5_ n6_ n7_ n8_ n9_ n10_; (try clear hb); (try clear hb2); (try clear hk); (try clear hi); (try clear ho0)))
                                      go_loopg [17] kj67 (fun kq v17 w' => ∃ (x17_6 : Int), v17 = .int .i64 x17_6 ∧ Aside0 (laws_FnPlanReaches.l2 kq t275 x17_6 = some r) ∧ Aside0 (kq ≤ kj67) ∧ Aside0 (Kd.R k55 55 w' w.heap.size (fun _ => True) v276 t275) ∧ Aside0 (Kd.C k55 w' Ao33 y261.length y261) ∧ Aside0 (Below w.heap.size w w'))
                                      case atStart => exact ⟨(0), (by first | rfl | (simp; done) | (simp [*]; done)), H', ⟨Nat.le_refl _⟩, ⟨by (with_reducible repeat (first | apply Kd.R_alloc | apply Kd.R_drewN | apply Kd.R_drew)); exact Kd.R_mono HO277.out (fun _ hk => trivial)⟩, ⟨by repeat (first | (with_reducible exact HR264.out) | (with_reducible refine Kd.C_alloc ?_ _) | (with_reducible refine Kd.C_drewN ?_ _) | (with_reducible refine Kd.C_drew ?_) | exact HR264.out)⟩, ⟨by repeat (first | (with_reducible first | exact HB.out | apply below_alloc | apply pw_below_drewN | apply below_drew1) | exact HB.out)⟩⟩
                                      case round =>
                                        clear H'
                                        try clear c1
                                        try clear c2
                                        try clear p2
                                        try clear q2
                                        try clear hx2
                                        try clear c3
                                        try clear c4
                                        try clear c5
                                        try clear c6
                                        try clear p6
                                        try clear c7
                                        try clear c8
                                        try clear q8
                                        try clear c10
                                        try clear c13
                                        try clear c16
                                        try clear c17
                                        try clear c22
                                        try clear c23
                                        try clear c23b0
                                        try clear c23b1
                                        try clear c23b2
                                        try clear p24
                                        try clear q24
                                        try clear hx24
                                        try clear p25
                                        try clear q25
                                        try clear hx25
                                        try clear c27
                                        try clear c33
                                        try clear c34
                                        try clear c35
                                        try clear c36
                                        try clear c36b0
                                        try clear c37
                                        try clear c37b0
                                        try clear c39
                                        try clear c45
                                        try clear c45b0
                                        try clear c46
                                        try clear c46b0
                                        try clear c48
                                        try clear c48b0
                                        try clear c50
                                        try clear c50b0
                                        try clear c53
                                        try clear c56
                                        try clear c60
                                        try clear c63
                                        try clear p64
                                        try clear c67
                                        try clear c67b0
                                        try clear c67b1
                                        try clear c67b2
                                        try clear c72
                                        try clear c72b0
                                        try clear c72b1
                                        try clear c73
                                        try clear c73b0
                                        try clear c73b1
                                        try clear c74
                                        try clear c74b0
                                        try clear c74b1
                                        try clear c75
                                        try clear c75b0
                                        try clear c75b1
                                        try clear c80
                                        try clear q82
                                        try clear hx244_0
                                        try clear hx246_0
                                        try clear hx248_0
                                        try clear hx250_0
                                        try clear hx252_0
                                        try clear hx254_0
                                        try clear hx256_0
                                        try clear p2
                                        try clear p24
                                        try clear p244
                                        try clear p246
                                        try clear p248
                                        try clear p25
                                        try clear p250
                                        try clear p252
                                        try clear p254
                                        try clear p256
                                        try clear p6
                                        try clear p64
                                        try clear q2
                                        try clear q24
                                        try clear q244
                                        try clear q246
                                        try clear q248
                                        try clear q25
                                        try clear q250
                                        try clear q252
                                        try clear q254
                                        try clear q256
                                        try clear q82
                                        obtain ⟨x17_6, rfl, HA, HK6, HO_16, HR264, HB⟩ := hrel
                                        cases gk with
                                        | zero => exact absurd HA.out (by simp [laws_FnPlanReaches.l2])
                                        | succ k6 =>
                                          have H := HA.out
                                          clear HA
                                          simp only [laws_FnPlanReaches.l2] at H
                                          by_cases c90 : x17_6 < (t275.length : Int)
                                          · rw [if_pos c90] at H
                                            have c90b0 : decide (x17_6 < (t275.length : Int)) = true := decide_eq_true c90
                                            clear c90
                                            by_cases c91 : 0 ≤ x17_6
                                            · rw [if_pos c91] at H
                                              have c91b0 : decide (0 ≤ x17_6) = true := decide_eq_true c91
                                              clear c91
                                              by_cases c92 : ((rd_T55 t275 x17_6).f0) = 3
                                              · rw [if_pos c92] at H
                                                have c92b0 : (((rd_T55 t275 x17_6).f0) == 3) = true := beq_iff_eq.mpr c92
                                                have c92b1 : (((rd_T55 t275 x17_6).f0) != 3) = false := bne_eq_false_iff_eq.mpr c92
                                                clear c92
                                                have H' := Aside0.mk H
                                                clear H
                                                obtain ⟨Ao93, co93, eo93⟩ := Kd.R_slice HO_16.out
                                                subst eo93
                                                have p278 : 0 ≤ (x17_6 : Int) := of_decide_eq_true (by first | (with_reducible assumption) | assumption)
                                                have q278 : x17_6 < (t275.length : Int) := of_decide_eq_true (by first | (with_reducible assumption) | assumption)
                                                obtain ⟨ad278, e278, hx278_0, hx278_1⟩ := at_T55 (Kd.R_reads' HO_16.out).2.2 x17_6 p278 q278
                                                cases e278
                                                replace p278 := eq_true p278
                                                replace q278 := eq_true q278
                                                go_wp2
                                                go_roundg k6
                                                case measure => have := HJ2.out; have := HJ9.out; have := HK3.out; have := HK4.out; have := HJ67.out; have := HK6.out; omega
                                                case rel => exact ⟨(wrap64 (x17_6 + 1)), (by first | rfl | (simp; done) | (simp [*]; done)), H', ⟨by have := HJ2.out; have := HJ9.out; have := HK3.out; have := HK4.out; have := HJ67.out; have := HK6.out; omega⟩, ⟨by (with_reducible repeat (first | apply Kd.R_alloc | apply Kd.R_drewN | apply Kd.R_drew)); exact HO_16.out⟩, ⟨by repeat (first | (with_reducible exact HR264.out) | (with_reducible refine Kd.C_alloc ?_ _) | (with_reducible refine Kd.C_drewN ?_ _) | (with_reducible refine Kd.C_drew ?_) | exact HR264.out)⟩, ⟨by repeat (first | (with_reducible first | exact HB.out | apply below_alloc | apply pw_below_drewN | apply below_drew1) | exact HB.out)⟩⟩
                                              · rw [if_neg c92] at H
                                                have c92b0 : (((rd_T55 t275 x17_6).f0) == 3) = false := beq_eq_false_iff_ne.mpr c92
                                                have c92b1 : (((rd_T55 t275 x17_6).f0) != 3) = true := bne_iff_ne.mpr c92
                                                obtain rfl := Option.some.inj H
                                                obtain ⟨Ao94, co94, eo94⟩ := Kd.R_slice HO_16.out
                                                subst eo94
                                                have p278 : 0 ≤ (x17_6 : Int) := of_decide_eq_true (by first | (with_reducible assumption) | assumption)
                                                have q278 : x17_6 < (t275.length : Int) := of_decide_eq_true (by first | (with_reducible assumption) | assumption)
                                                obtain ⟨ad278, e278, hx278_0, hx278_1⟩ := at_T55 (Kd.R_reads' HO_16.out).2.2 x17_6 p278 q278
                                                cases e278
                                                replace p278 := eq_true p278
                                                replace q278 := eq_true q278
                                                go_wp2
                                                go_ret
                                                exact ⟨by first | rfl | (simp [errW_none, errW_some] <;> rfl) | (simp [*, errW_none, errW_some] <;> rfl), by repeat (first | (with_reducible first | exact HB.out | apply below_alloc | apply pw_below_drewN | apply below_drew1) | exact HB.out)⟩
                                            · rw [if_neg c91] at H
                                              exact absurd H (by simp)
                                          · rw [if_neg c90] at H
                                            have c90b0 : decide (x17_6 < (t275.length : Int)) = false := decide_eq_false c90
                                            clear c90
                                            obtain ⟨y279, hy279⟩ : ∃ y_ : List (S32), y_ = (([] : List (S32))) := ⟨_, rfl⟩
                                            replace H : ((impl_UnitsOk.f y279).bind fun t282 => (some t282)) = some r := by first | (rw [hy279]; with_reducible exact H) | (have H2_ := (Option.bind_some _ _).symm.trans H; rw [hy279]; with_reducible exact H2_) | (have H2_ := (Option.bind_some _ _).symm.trans H; with_reducible exact H2_) | with_reducible exact H | (rw [hy279]; exact H) | exact H
                                            have Ny279 := Aside0.mk hy279
                                            clear hy279
                                            replace H := Option.bind_eq_some_iff.mp H
                                            obtain ⟨t282, A950, H⟩ := H
                                            replace H : (some t282) = some r := H
                                            have A95 := Aside0.mk A950
                                            clear A950
                                            obtain rfl := Option.some.inj H
                                            obtain ⟨Ao96, co96, eo96⟩ := Kd.R_slice HO_16.out
                                            subst eo96
                                            go_wp2_with (first | ((with_reducible refine gate_dst (N := 157) rfl ?_); (try (refine gate_guard (by rfl) ?_; dsimp only)); refine Kd.S_lit k32 _ 32 ?hg (N := 157) ?hd (xs := ([] : List (S32))) (inner := []) (ok := fun _ => True) (okp := fun _ => True) ?hr ?hp (fun _ hk => hk) trivial (Below.refl _ _) (Nat.le_refl _) (by simp) ?_; (case hd => rfl); (case hg => rfl); (case hr => first | (go_simp; done) | (go_simp; rfl)); (case hp => exact (Reps.none _ _)); intro v280 w97 ho98 hb hg_ hnew_; clear hg_ hnew_; (first | rw [← Ny279.out] at ho98 | (simp only [Int.reduceToNat] at ho98; rw [← Ny279.out] at ho98)); have n0_ := Aside0.mk (Kd.R_below (by (with_reducible repeat (first | apply Kd.R_alloc | apply Kd.R_drewN | apply Kd.R_drew)); exact HO_16.out) hb); have n1_ := Aside0.mk (Kd.S_lower ho98 (below_size (by repeat (first | (with_reducible first | exact HB.out | apply below_alloc | apply pw_below_drewN | apply below_drew1) | exact HB.out)))); have n2_ := Aside0.mk (Kd.C_below (by repeat (first | (with_reducible exact HR264.out) | (with_reducible refine Kd.C_alloc ?_ _) | (with_reducible refine Kd.C_drewN ?_ _) | (with_reducible refine Kd.C_drew ?_) | exact HR264.out)) hb); have n3_ := Aside0.mk (below_step (by repeat (first | (with_reducible first | exact HB.out | apply below_alloc | apply pw_below_drewN | apply below_drew1) | exact HB.out)) hb); clear HO_16; clear HR264; clear HB; have HO_16 := n0_; have HO281 := n1_; have HR264 := n2_; have HB := n3_; clear n0_ n1_ n2_ n3_; clear hb ho98; obtain ⟨Ao99, co99, eo99⟩ := Kd.S_slice HO281.out; subst eo99) | ((with_reducible refine gate_callee (f := 14) rfl ?_); refine goesL_ (some 158) rfl rfl Try.func14 (by kernel_rfl) rfl #[.slice Ao99 y279.length co99] rfl (by (try simp only [List.map_toArray, List.map_cons, List.map_nil]); first | done | rfl | (simp only [List.length_drop, List.length_take]; rfl)) ?_; (with_reducible refine (impl_UnitsOk.calls _ _ y279 t282 _ ?side1 ?side2 A95.out).mono ?_); (case side1 => repeat (first | exact (Kd.S_reads' HO281.out).2.2 | (with_reducible refine Kd.C_alloc ?_ _) | (with_reducible refine Kd.C_drewN ?_ _) | (with_reducible refine Kd.C_drew ?_))); (case side2 => exact (Kd.S_reads' HO281.out).2.1); rintro e w100 ⟨rfl, hb⟩; refine ⟨_, rfl, ?_⟩; have n0_ := Aside0.mk (Kd.R_below (by (with_reducible repeat (first | apply Kd.R_alloc | apply Kd.R_drewN | apply Kd.R_drew)); exact HO_16.out) hb); have n1_ := Aside0.mk (Kd.S_below (by (with_reducible repeat (first | apply Kd.S_alloc | apply Kd.S_drewN | apply Kd.S_drew)); exact HO281.out) hb); have n2_ := Aside0.mk (Kd.C_below (by repeat (first | (with_reducible exact HR264.out) | (with_reducible refine Kd.C_alloc ?_ _) | (with_reducible refine Kd.C_drewN ?_ _) | (with_reducible refine Kd.C_drew ?_) | exact HR264.out)) hb); have n3_ := Aside0.mk (below_step (by repeat (first | (with_reducible first | exact HB.out | apply below_alloc | apply pw_below_drewN | apply below_drew1) | exact HB.out)) hb); clear HO_16; clear HO281; clear HR264; clear HB; have HO_16 := n0_; have HO281 := n1_; have HR264 := n2_; have HB := n3_; clear n0_ n1_ n2_ n3_; (try clear hb); (try clear hb2); (try clear hk); (try clear hi)))
                                            go_ret
                                            exact ⟨by first | rfl | (simp [errW_none, errW_some] <;> rfl) | (simp [*, errW_none, errW_some] <;> rfl), by repeat (first | (with_reducible first | exact HB.out | apply below_alloc | apply pw_below_drewN | apply below_drew1) | exact HB.out)⟩
                                    · replace c80 := Bool.eq_false_iff.mpr c80
                                      subst c80
                                      have H1 : (some false) = some r := by rw [if_neg (show ¬ (false = true) by decide)] at H; exact H
                                      clear H
                                      have H := H1
                                      clear H1
                                      obtain rfl := Option.some.inj H
                                      have q101 : (x14_67 : Int) ≤ ((t228.length : Int) : Int) := of_decide_eq_true (by first | (with_reducible assumption) | assumption)
                                      obtain ⟨i0101, hi0101, _, hsz101, _⟩ := info_parts info55
                                      have hroom101 : t228.length ≤ co33 := (Kd.R_reads' HO_8.out).2.1
                                      have hC101 : Kd.C k55 _ Ao33 t228.length t228 := (Kd.R_reads' HO_8.out).2.2
                                      have hcut101 := cut_to (P := Try.prog) 51 55 .i64 Try.underlying51 hi0101 Ao33 t228.length co33 x14_67 (of_decide_eq_true (by first | (with_reducible assumption) | assumption)) q101 hroom101
                                      have hr101 := Kd.C_take (m := (x14_67 : Int).toNat) hC101 (by omega)
                                      have hy101 : y261.length = (x14_67 : Int).toNat := (by rw [Ny261.out, List.length_take]; omega)
                                      rw [← Ny261.out] at hr101
                                      rw [← hy101] at hcut101
                                      have HR264 := Aside0.mk hr101
                                      have HC264 := Aside0.mk (show y261.length ≤ co33 from by omega)
                                      clear hr101 hC101 hroom101 hi0101 hsz101
                                      have KY101 := Aside0.mk hy101
                                      clear hy101
                                      have KL101 := Aside0.mk (show (x14_67 : Int).toNat ≤ t228.length from by omega)
                                      replace q101 := eq_true q101
                                      go_wp2_with (first | ((with_reducible refine gate_callee (f := 35) rfl ?_); refine goesL_ (some 131) rfl rfl Try.func35 (by kernel_rfl) rfl #[.slice Ao14 t221.length co14, .slice Ao33 y261.length co33] rfl (by (try simp only [List.map_toArray, List.map_cons, List.map_nil]); first | done | rfl | (simp only [List.length_drop, List.length_take]; rfl)) ?_; (with_reducible refine (impl_ApplyActs.calls _ _ t221 _ _ y261 t265 _ ?side1 ?side2 ?side3 ?side4 A76.out).mono ?_); (case side1 => repeat (first | exact (Kd.R_reads' HO_7.out).2.2 | (with_reducible refine Kd.C_alloc ?_ _) | (with_reducible refine Kd.C_drewN ?_ _) | (with_reducible refine Kd.C_drew ?_))); (case side2 => exact (Kd.R_reads' HO_7.out).2.1); (case side3 => repeat (first | exact (by repeat (first | (with_reducible exact HR264.out) | (with_reducible refine Kd.C_alloc ?_ _) | (with_reducible refine Kd.C_drewN ?_ _) | (with_reducible refine Kd.C_drew ?_) | exact HR264.out)) | (with_reducible refine Kd.C_alloc ?_ _) | (with_reducible refine Kd.C_drewN ?_ _) | (with_reducible refine Kd.C_drew ?_))); (case side4 => exact HC264.out); rintro e w102 ⟨v266, rfl, ho0, hb⟩; refine ⟨_, rfl, ?_⟩; have n0_ := Aside0.mk (Kd.S_elder' (by (with_reducible repeat (first | apply Kd.S_alloc | apply Kd.S_drewN | apply Kd.S_drew)); exact HO_5.out) (Kd.R_base ho0) hb); have n1_ := Aside0.mk (Kd.S_elder' (by (with_reducible repeat (first | apply Kd.S_alloc | apply Kd.S_drewN | apply Kd.S_drew)); exact HO_6.out) (Kd.R_base ho0) hb); have n2_ := Aside0.mk (Kd.R_elder' (by (with_reducible repeat (first | apply Kd.R_alloc | apply Kd.R_drewN | apply Kd.R_drew)); exact HO_7.out) (Kd.R_base ho0) hb); have n3_ := Aside0.mk (Kd.R_below (by (with_reducible repeat (first | apply Kd.R_alloc | apply Kd.R_drewN | apply Kd.R_drew)); exact HO_8.out) hb); have n4_ := Aside0.mk (Kd.R_elder' (by (with_reducible repeat (first | apply Kd.R_alloc | apply Kd.R_drewN | apply Kd.R_drew)); exact HO_9.out) (Kd.R_base ho0) hb); have n5_ := Aside0.mk (Kd.R_lower (Kd.R_new' (Kd.R_new' ho0 (Kd.R_lt (by (with_reducible repeat (first | apply Kd.R_alloc | apply Kd.R_drewN | apply Kd.R_drew)); exact HO_7.out))) (Kd.R_lt (by (with_reducible repeat (first | apply Kd.R_alloc | apply Kd.R_drewN | apply Kd.R_drew)); exact HO_9.out))) (below_size (by repeat (first | (with_reducible first | exact HB.out | apply below_alloc | apply pw_below_drewN | apply below_drew1) | exact HB.out)))); have n6_ := Aside0.mk (Kd.C_below (by repeat (first | (with_reducible exact HR264.out) | (with_reducible refine Kd.C_alloc ?_ _) | (with_reducible refine Kd.C_drewN ?_ _) | (with_reducible refine Kd.C_drew ?_) | exact HR264.out)) hb); have n7_ := Aside0.mk (below_step (by repeat (first | (with_reducible first | exact HB.out | apply below_alloc | apply pw_below_drewN | apply below_drew1) | exact HB.out)) hb); clear HO_5; clear HO_6; clear HO_7; clear HO_8; clear HO_9; clear HR264; clear HB; have HO_5 := n0_; have HO_6 := n1_; have HO_7 := n2_; have HO_8 := n3_; have HO_9 := n4_; have HO267 := n5_; have HR264 := n6_; have HB := n7_; clear n0_ n1_ n2_ n3_ n4_ n5_ n6_ n7_; (try clear hb); (try clear hb2); (try clear hk); (try clear hi); (try clear ho0); obtain ⟨Ao103, co103, eo103⟩ := Kd.R_slice HO267.out; subst eo103) | ((with_reducible refine gate_callee (f := 34) rfl ?_); refine goesL_ (some 136) rfl rfl Try.func34 (by kernel_rfl) rfl #[.slice Ao12 t219.length co12, .slice Ao13 t220.length co13, .slice Ao103 t265.length co103] rfl (by (try simp only [List.map_toArray, List.map_cons, List.map_nil]); first | done | rfl | (simp only [List.length_drop, List.length_take]; rfl)) ?_; (with_reducible refine (impl_PlanUnits.calls _ _ t219 _ _ t220 _ _ t265 t268 _ ?side1 ?side2 ?side3 ?side4 ?side5 ?side6 A77.out).mono ?_); (case side1 => repeat (first | exact (Kd.S_reads' HO_5.out).2.2 | (with_reducible refine Kd.C_alloc ?_ _) | (with_reducible refine Kd.C_drewN ?_ _) | (with_reducible refine Kd.C_drew ?_))); (case side2 => exact (Kd.S_reads' HO_5.out).2.1); (case side3 => repeat (first | exact (Kd.S_reads' HO_6.out).2.2 | (with_reducible refine Kd.C_alloc ?_ _) | (with_reducible refine Kd.C_drewN ?_ _) | (with_reducible refine Kd.C_drew ?_))); (case side4 => exact (Kd.S_reads' HO_6.out).2.1); (case side5 => repeat (first | exact (Kd.R_reads' HO267.out).2.2 | (with_reducible refine Kd.C_alloc ?_ _) | (with_reducible refine Kd.C_drewN ?_ _) | (with_reducible refine Kd.C_drew ?_))); (case side6 => exact (Kd.R_reads' HO267.out).2.1); rintro e w104 ⟨v269, rfl, ho0, hb⟩; refine ⟨_, rfl, ?_⟩; have n0_ := Aside0.mk (Kd.S_below (by (with_reducible repeat (first | apply Kd.S_alloc | apply Kd.S_drewN | apply Kd.S_drew)); exact HO_5.out) hb); have n1_ := Aside0.mk (Kd.S_below (by (with_reducible repeat (first | apply Kd.S_alloc | apply Kd.S_drewN | apply Kd.S_drew)); exact HO_6.out) hb); have n2_ := Aside0.mk (Kd.R_below (by (with_reducible repeat (first | apply Kd.R_alloc | apply Kd.R_drewN | apply Kd.R_drew)); exact HO_7.out) hb); have n3_ := Aside0.mk (Kd.R_elder' (by (with_reducible repeat (first | apply Kd.R_alloc | apply Kd.R_drewN | apply Kd.R_drew)); exact HO_8.out) (Kd.R_base ho0) hb); have n4_ := Aside0.mk (Kd.R_below (by (with_reducible repeat (first | apply Kd.R_alloc | apply Kd.R_drewN | apply Kd.R_drew)); exact HO_9.out) hb); have n5_ := Aside0.mk (Kd.R_below (by (with_reducible repeat (first | apply Kd.R_alloc | apply Kd.R_drewN | apply Kd.R_drew)); exact HO267.out) hb); have n6_ := Aside0.mk (Kd.R_lower (Kd.R_new' ho0 (Kd.R_lt (by (with_reducible repeat (first | apply Kd.R_alloc | apply Kd.R_drewN | apply Kd.R_drew)); exact HO_8.out))) (below_size (by repeat (first | (with_reducible first | exact HB.out | apply below_alloc | apply pw_below_drewN | apply below_drew1) | exact HB.out)))); have n7_ := Aside0.mk (Kd.C_below (by repeat (first | (with_reducible exact HR264.out) | (with_reducible refine Kd.C_alloc ?_ _) | (with_reducible refine Kd.C_drewN ?_ _) | (with_reducible refine Kd.C_drew ?_) | exact HR264.out)) hb); have n8_ := Aside0.mk (below_step (by repeat (first | (with_reducible first | exact HB.out | apply below_alloc | apply pw_below_drewN | apply below_drew1) | exact HB.out)) hb); clear HO_5; clear HO_6; clear HO_7; clear HO_8; clear HO_9; clear HO267; clear HR264; clear HB; have HO_5 := n0_; have HO_6 := n1_; have HO_7 := n2_; have HO_8 := n3_; have HO_9 := n4_; have HO267 := n5_; have HO270 := n6_; have HR264 := n7_; have HB := n8_; clear n0_ n1_ n2_ n3_ n4_ n5_ n6_ n7_ n8_; (try clear hb); (try clear hb2); (try clear hk); (try clear hi); (try clear ho0); obtain ⟨Ao105, co105, eo105⟩ := Kd.R_slice HO270.out; subst eo105) | ((with_reducible refine gate_callee (f := 35) rfl ?_); refine goesL_ (some 137) rfl rfl Try.func35 (by kernel_rfl) rfl #[.slice Ao103 t265.length co103, .slice Ao105 t268.length co105] rfl (by (try simp only [List.map_toArray, List.map_cons, List.map_nil]); first | done | rfl | (simp only [List.length_drop, List.length_take]; rfl)) ?_; (with_reducible refine (impl_ApplyActs.calls _ _ t265 _ _ t268 t271 _ ?side1 ?side2 ?side3 ?side4 A78.out).mono ?_); (case side1 => repeat (first | exact (Kd.R_reads' HO267.out).2.2 | (with_reducible refine Kd.C_alloc ?_ _) | (with_reducible refine Kd.C_drewN ?_ _) | (with_reducible refine Kd.C_drew ?_))); (case side2 => exact (Kd.R_reads' HO267.out).2.1); (case side3 => repeat (first | exact (Kd.R_reads' HO270.out).2.2 | (with_reducible refine Kd.C_alloc ?_ _) | (with_reducible refine Kd.C_drewN ?_ _) | (with_reducible refine Kd.C_drew ?_))); (case side4 => exact (Kd.R_reads' HO270.out).2.1); rintro e w106 ⟨v272, rfl, ho0, hb⟩; refine ⟨_, rfl, ?_⟩; have n0_ := Aside0.mk (Kd.S_elder' (by (with_reducible repeat (first | apply Kd.S_alloc | apply Kd.S_drewN | apply Kd.S_drew)); exact HO_5.out) (Kd.R_base ho0) hb); have n1_ := Aside0.mk (Kd.S_elder' (by (with_reducible repeat (first | apply Kd.S_alloc | apply Kd.S_drewN | apply Kd.S_drew)); exact HO_6.out) (Kd.R_base ho0) hb); have n2_ := Aside0.mk (Kd.R_elder' (by (with_reducible repeat (first | apply Kd.R_alloc | apply Kd.R_drewN | apply Kd.R_drew)); exact HO_7.out) (Kd.R_base ho0) hb); have n3_ := Aside0.mk (Kd.R_below (by (with_reducible repeat (first | apply Kd.R_alloc | apply Kd.R_drewN | apply Kd.R_drew)); exact HO_8.out) hb); have n4_ := Aside0.mk (Kd.R_elder' (by (with_reducible repeat (first | apply Kd.R_alloc | apply Kd.R_drewN | apply Kd.R_drew)); exact HO_9.out) (Kd.R_base ho0) hb); have n5_ := Aside0.mk (Kd.R_elder' (by (with_reducible repeat (first | apply Kd.R_alloc | apply Kd.R_drewN | apply Kd.R_drew)); exact HO267.out) (Kd.R_base ho0) hb); have n6_ := Aside0.mk (Kd.R_below (by (with_reducible repeat (first | apply Kd.R_alloc | apply Kd.R_drewN | apply Kd.R_drew)); exact HO270.out) hb); have n7_ := Aside0.mk (Kd.R_lower (Kd.R_new' (Kd.R_new' (Kd.R_new' ho0 (Kd.R_lt (by (with_reducible repeat (first | apply Kd.R_alloc | apply Kd.R_drewN | apply Kd.R_drew)); exact HO_7.out))) (Kd.R_lt (by (with_reducible repeat (first | apply Kd.R_alloc | apply Kd.R_drewN | apply Kd.R_drew)); exact HO_9.out))) (Kd.R_lt (by (with_reducible repeat (first | apply Kd.R_alloc | apply Kd.R_drewN | apply Kd.R_drew)); exact HO267.out))) (below_size (by repeat (first | (with_reducible first | exact HB.out | apply below_alloc | apply pw_below_drewN | apply below_drew1) | exact HB.out)))); have n8_ := Aside0.mk (Kd.C_below (by repeat (first | (with_reducible exact HR264.out) | (with_reducible refine Kd.C_alloc ?_ _) | (with_reducible refine Kd.C_drewN ?_ _) | (with_reducible refine Kd.C_drew ?_) | exact HR264.out)) hb); have n9_ := Aside0.mk (below_step (by repeat (first | (with_reducible first | exact HB.out | apply below_alloc | apply pw_below_drewN | apply below_drew1) | exact HB.out)) hb); clear HO_5; clear HO_6; clear HO_7; clear HO_8; clear HO_9; clear HO267; clear HO270; clear HR264; clear HB; have HO_5 := n0_; have HO_6 := n1_; have HO_7 := n2_; have HO_8 := n3_; have HO_9 := n4_; have HO267 := n5_; have HO270 := n6_; have HO273 := n7_; have HR264 := n8_; have HB := n9_; clear n0_ n1_ n2_ n3_ n4_ n5_ n6_ n7_ n8_ n9_; (try clear hb); (try clear hb2); (try clear hk); (try clear hi); (try clear ho0); obtain ⟨Ao107, co107, eo107⟩ := Kd.R_slice HO273.out; subst eo107) | ((with_reducible refine gate_callee (f := 37) rfl ?_); refine goesL_ (some 139) rfl rfl Try.func37 (by kernel_rfl) rfl #[.slice Ao107 t271.length co107, .slice Ao69 t237.length co69] rfl (by (try simp only [List.map_toArray, List.map_cons, List.map_nil]); first | done | rfl | (simp only [List.length_drop, List.length_take]; rfl)) ?_; (with_reducible refine (laws_sameTexts.calls kj67 _ _ t271 _ _ t237 false _ ?side1 ?side2 ?side3 ?side4 A79.out).mono ?_); (case side1 => repeat (first | exact (Kd.R_reads' HO273.out).2.2 | (with_reducible refine Kd.C_alloc ?_ _) | (with_reducible refine Kd.C_drewN ?_ _) | (with_reducible refine Kd.C_drew ?_))); (case side2 => exact (Kd.R_reads' HO273.out).2.1); (case side3 => repeat (first | exact (Kd.R_reads' HO_9.out).2.2 | (with_reducible refine Kd.C_alloc ?_ _) | (with_reducible refine Kd.C_drewN ?_ _) | (with_reducible refine Kd.C_drew ?_))); (case side4 => exact (Kd.R_reads' HO_9.out).2.1); rintro e w' ⟨rfl, ⟨nd, rfl⟩⟩; refine ⟨_, rfl, ?_⟩))
                                      go_ret
                                      exact ⟨by first | rfl | (simp [errW_none, errW_some] <;> rfl) | (simp [*, errW_none, errW_some] <;> rfl), by repeat (first | (with_reducible first | exact HB.out | apply below_alloc | apply pw_below_drewN | apply below_drew1) | exact HB.out)⟩
                                  · rw [if_neg c75] at H
                                    exact absurd H (by simp)
                                · rw [if_neg c74] at H
                                  exact absurd H (by simp)
                          · rw [if_neg c67] at H
                            have c67b0 : ((t228.length : Int) == (t258.length : Int)) = false := beq_eq_false_iff_ne.mpr c67
                            have c67b1 : ((t228.length : Int) != (t258.length : Int)) = true := bne_iff_ne.mpr c67
                            have c67b2 : (t228.length == t258.length) = false := by first | simpa using c67 | (simp at c67 ⊢; omega)
                            obtain rfl := Option.some.inj H
                            obtain ⟨Ao108, co108, eo108⟩ := Kd.R_slice HO_9.out
                            subst eo108
                            go_wp2_with (first | ((with_reducible refine gate_callee (f := 36) rfl ?_); refine goesL_ (some 115) rfl rfl Try.func36 (by kernel_rfl) rfl #[.slice Ao12 t219.length co12, .slice Ao13 t220.length co13, .slice Ao14 t221.length co14] rfl (by (try simp only [List.map_toArray, List.map_cons, List.map_nil]); first | done | rfl | (simp only [List.length_drop, List.length_take]; rfl)) ?_; (with_reducible refine (spec_PlanUnits.calls _ _ t219 _ _ t220 _ _ t221 t258 _ ?side1 ?side2 ?side3 ?side4 ?side5 ?side6 A66.out).mono ?_); (case side1 => repeat (first | exact (Kd.S_reads' HO_5.out).2.2 | (with_reducible refine Kd.C_alloc ?_ _) | (with_reducible refine Kd.C_drewN ?_ _) | (with_reducible refine Kd.C_drew ?_))); (case side2 => exact (Kd.S_reads' HO_5.out).2.1); (case side3 => repeat (first | exact (Kd.S_reads' HO_6.out).2.2 | (with_reducible refine Kd.C_alloc ?_ _) | (with_reducible refine Kd.C_drewN ?_ _) | (with_reducible refine Kd.C_drew ?_))); (case side4 => exact (Kd.S_reads' HO_6.out).2.1); (case side5 => repeat (first | exact (Kd.R_reads' HO_7.out).2.2 | (with_reducible refine Kd.C_alloc ?_ _) | (with_reducible refine Kd.C_drewN ?_ _) | (with_reducible refine Kd.C_drew ?_))); (case side6 => exact (Kd.R_reads' HO_7.out).2.1); rintro e w109 ⟨v259, rfl, ho0, hb⟩; refine ⟨_, rfl, ?_⟩; have n0_ := Aside0.mk (Kd.S_below (by (with_reducible repeat (first | apply Kd.S_alloc | apply Kd.S_drewN | apply Kd.S_drew)); exact HO_5.out) hb); have n1_ := Aside0.mk (Kd.S_below (by (with_reducible repeat (first | apply Kd.S_alloc | apply Kd.S_drewN | apply Kd.S_drew)); exact HO_6.out) hb); have n2_ := Aside0.mk (Kd.R_below (by (with_reducible repeat (first | apply Kd.R_alloc | apply Kd.R_drewN | apply Kd.R_drew)); exact HO_7.out) hb); have n3_ := Aside0.mk (Kd.R_elder' (by (with_reducible repeat (first | apply Kd.R_alloc | apply Kd.R_drewN | apply Kd.R_drew)); exact HO_8.out) (Kd.R_base ho0) hb); have n4_ := Aside0.mk (Kd.R_below (by (with_reducible repeat (first | apply Kd.R_alloc | apply Kd.R_drewN | apply Kd.R_drew)); exact HO_9.out) hb); have n5_ := Aside0.mk (Kd.R_below (by (with_reducible repeat (first | apply Kd.R_alloc | apply Kd.R_drewN | apply Kd.R_drew)); exact HO_10.out) hb); have n6_ := Aside0.mk (Kd.R_lower (Kd.R_new' ho0 (Kd.R_lt (by (with_reducible repeat (first | apply Kd.R_alloc | apply Kd.R_drewN | apply Kd.R_drew)); exact HO_8.out))) (below_size (by repeat (first | (with_reducible first | exact HB.out | apply below_alloc | apply pw_below_drewN | apply below_drew1) | exact HB.out)))); have n7_ := Aside0.mk (below_step (by repeat (first | (with_reducible first | exact HB.out | apply below_alloc | apply pw_below_drewN | apply below_drew1) | exact HB.out)) hb); clear HO_5; clear HO_6; clear HO_7; clear HO_8; clear HO_9; clear HO_10; clear HB; have HO_5 := n0_; have HO_6 := n1_; have HO_7 := n2_; have HO_8 := n3_; have HO_9 := n4_; have HO_10 := n5_; have HO260 := n6_; have HB := n7_; clear n0_ n1_ n2_ n3_ n4_ n5_ n6_ n7_; (try clear hb); (try clear hb2); (try clear hk); (try clear hi); (try clear ho0); obtain ⟨Ao110, co110, eo110⟩ := Kd.R_slice HO260.out; subst eo110))
                            go_ret
                            exact ⟨by first | rfl | (simp [errW_none, errW_some] <;> rfl) | (simp [*, errW_none, errW_some] <;> rfl), by repeat (first | (with_reducible first | exact HB.out | apply below_alloc | apply pw_below_drewN | apply below_drew1) | exact HB.out)⟩
def laws_FnPlanReaches.Pure : Prop := ∀ (l0 : List Int) (l1 : List Int), l0.length ≤ maxLen → l0.length * 1 ≤ 140737488351232 → (∀ x ∈ l0, (Lit.int .u8 x).wf = true) → l1.length ≤ maxLen → l1.length * 1 ≤ 140737488351232 → (∀ x ∈ l1, (Lit.int .u8 x).wf = true) → ∃ k, laws_FnPlanReaches.f k l0 l1 = some true
theorem laws_FnPlanReaches.walk (P : laws_FnPlanReaches.Pure) (a0 : Option Addr) (len0 cap0 : Nat) (z0 : List Int) (a1 : Option Addr) (len1 cap1 : Nat) (z1 : List Int) (w : World) (w0 : (a0 = none ∧ len0 = 0 ∧ cap0 = 0 ∧ z0 = []) ∨ ∃ x, a0 = some x ∧ len0 ≤ cap0 ∧ cap0 ≤ maxLen ∧ z0.length = cap0 ∧ (∀ i, i < z0.length → w.cell? (x.add i) = some (.int .u8 (z0.getD i 0))) ∧ ∀ n ∈ z0, (Lit.int .u8 n).wf = true) (y0 : len0 * 1 ≤ 140737488351232) (w1 : (a1 = none ∧ len1 = 0 ∧ cap1 = 0 ∧ z1 = []) ∨ ∃ x, a1 = some x ∧ len1 ≤ cap1 ∧ cap1 ≤ maxLen ∧ z1.length = cap1 ∧ (∀ i, i < z1.length → w.cell? (x.add i) = some (.int .u8 (z1.getD i 0))) ∧ ∀ n ∈ z1, (Lit.int .u8 n).wf = true) (y1 : len1 * 1 ≤ 140737488351232) :
    Calls Try.prog 8 #[.slice a0 len0 cap0, .slice a1 len1 cap1] w fun e w' => e = .returned (.bool true) ∧ Below w.heap.size w w' := by
  obtain ⟨l0, rfl, hr0, hm0, hw0, hc0⟩ := ReadsInt.ofRowC w0
  obtain ⟨l1, rfl, hr1, hm1, hw1, hc1⟩ := ReadsInt.ofRowC w1
  obtain ⟨k, h⟩ := P l0 l1 hm0 y0 hw0 hm1 y1 hw1
  refine (laws_FnPlanReaches.calls k _ _ l0 _ _ l1 true w (Kd.C_of_reads (d := (0 : Int)) (h1 := fun _ => rfl) hr0) hc0 (Kd.C_of_reads (d := (0 : Int)) (h1 := fun _ => rfl) hr1) hc1 h).mono ?_
  rintro e w' ⟨rfl, hd⟩
  exact ⟨rfl, hd⟩
end Go.Proofs.Ytnjmhlhlmokjnaa.G
