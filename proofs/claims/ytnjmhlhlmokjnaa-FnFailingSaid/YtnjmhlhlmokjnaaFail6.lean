/-
  Part 6 of the texts of this claim: GLawsFnFailing, XPureAdd, XPureDraw.
-/
import Derived.Laws.BitsLemmas
import Derived.Test.YtnjmhlhlmokjnaaFail5
namespace Go.Proofs.Ytnjmhlhlmokjnaa.G
open Go.RowKit Go.Proofs.YtnjmhlhlmokjnaaW.PrintWords Go.Proofs.YtnjmhlhlmokjnaaW.PrintLast Go.Proofs.YtnjmhlhlmokjnaaW.PrintMore
attribute [local go_sem] max2_int min2_int max_two min_two max_three min_three max_four min_four
set_option linter.unusedVariables false
set_option linter.unusedSimpArgs false
mutual
def laws_FnFailing.l0 : Nat → List (S32) → List ByteArray → List ByteArray → Int → Option (Bool)
  | 0, _, _, _, _ => none
  | k + 1, x3, x4, x5, x6 => if x6 < (x3.length : Int) then (if 0 ≤ x6 then ((laws_has.f k x4 ((rd_T32 x3 x6).f0)).bind fun t250 => (laws_FnFailing.l1 k x3 x4 x5 x6 t250 0)) else (none)) else (if 0 ≤ (wrap64 ((x4.length : Int) / 2)) then (if (wrap64 ((x4.length : Int) / 2)) ≤ (x4.length : Int) then ((impl_Failing.f x3 (x4.take ((wrap64 ((x4.length : Int) / 2)) : Int).toNat)).bind fun t264 => (laws_FnFailing.l2 k x5 t264 0)) else (none)) else (none))
def laws_FnFailing.l1 : Nat → List (S32) → List ByteArray → List ByteArray → Int → Bool → Int → Option (Bool)
  | 0, _, _, _, _, _, _ => none
  | k + 1, x3, x4, x5, x6, x7, x8 => if 0 ≤ x6 then (if x6 < (x3.length : Int) then (if x8 < (((rd_T32 x3 x6).f2).length : Int) then (if x7 = true then (laws_FnFailing.l1 k x3 x4 x5 x6 true (wrap64 (x8 + 1))) else (if 0 ≤ x8 then ((laws_unit.f k x3 (rdOf ByteArray.empty ((rd_T32 x3 x6).f2) x8)).bind fun t254 => (if t254 < 0 then (laws_FnFailing.l1 k x3 x4 x5 x6 true (wrap64 (x8 + 1))) else ((laws_has.f k x5 (rdOf ByteArray.empty ((rd_T32 x3 x6).f2) x8)).bind fun t257 => (laws_FnFailing.l1 k x3 x4 x5 x6 t257 (wrap64 (x8 + 1)))))) else (none))) else ((laws_has.f k x5 ((rd_T32 x3 x6).f0)).bind fun t259 => (if (x7 != t259) = true then (some false) else (laws_FnFailing.l0 k x3 x4 x5 (wrap64 (x6 + 1)))))) else (none)) else (none)
def laws_FnFailing.l2 : Nat → List ByteArray → List ByteArray → Int → Option (Bool)
  | 0, _, _, _ => none
  | k + 1, x5, x9, x10 => if x10 < (x9.length : Int) then (if 0 ≤ x10 then ((laws_has.f k x5 (rdOf ByteArray.empty x9 x10)).bind fun t268 => (if t268 = true then (laws_FnFailing.l2 k x5 x9 (wrap64 (x10 + 1))) else (some false))) else (none)) else ((impl_UnitsOk.f (([] : List (S32)))).bind fun t272 => (some t272))
end
def laws_FnFailing.f (k : Nat) (l0 : List Int) : Option (Bool) := (laws_big.f l0).bind fun t231 => (if t231 = true then (some true) else ((spec_DrawFailing.f k l0).bind fun bt232 => ((impl_Failing.f bt232.1 bt232.2).bind fun t238 => ((spec_UnitsOk.f bt232.1).bind fun t241 => (if t241 = true then ((spec_Failing.f k bt232.1 bt232.2).bind fun t246 => (if (t238.length : Int) = (t246.length : Int) then (laws_FnFailing.l0 k bt232.1 bt232.2 t238 0) else (some false))) else (if (t238.length : Int) = 0 then ((impl_UnitsOk.f (([] : List (S32)))).bind fun t245 => (some t245)) else (some false)))))))
set_option maxHeartbeats 8000000 in
set_option maxRecDepth 100000 in
theorem laws_FnFailing.calls (k : Nat) (A0 : Option Addr) (c0 : Nat) (l0 : List Int) (r : Bool) (w : World) (hr0 : Kd.C (Kd.int .u8) w A0 l0.length l0) (hc0 : l0.length ≤ c0) (h : laws_FnFailing.f k l0 = some r) :
    Calls Try.prog 3 #[.slice A0 l0.length c0] w fun e w' => e = .returned (.bool r) ∧ Below w.heap.size w w' := by
  have HR0 := Aside0.mk hr0
  have HC0 := Aside0.mk hc0
  clear hr0 hc0
  have HB := Aside0.mk (Below.refl w.heap.size w)
  have H : ((laws_big.f l0).bind fun t231 => (if t231 = true then (some true) else ((spec_DrawFailing.f k l0).bind fun bt232 => ((impl_Failing.f bt232.1 bt232.2).bind fun t238 => ((spec_UnitsOk.f bt232.1).bind fun t241 => (if t241 = true then ((spec_Failing.f k bt232.1 bt232.2).bind fun t246 => (if (t238.length : Int) = (t246.length : Int) then (laws_FnFailing.l0 k bt232.1 bt232.2 t238 0) else (some false))) else (if (t238.length : Int) = 0 then ((impl_UnitsOk.f (([] : List (S32)))).bind fun t245 => (some t245)) else (some false)))))))) = some r := h
  clear h
  replace H := Option.bind_eq_some_iff.mp H
  obtain ⟨t231, A20, H⟩ := H
  replace H : (if t231 = true then (some true) else ((spec_DrawFailing.f k l0).bind fun bt232 => ((impl_Failing.f bt232.1 bt232.2).bind fun t238 => ((spec_UnitsOk.f bt232.1).bind fun t241 => (if t241 = true then ((spec_Failing.f k bt232.1 bt232.2).bind fun t246 => (if (t238.length : Int) = (t246.length : Int) then (laws_FnFailing.l0 k bt232.1 bt232.2 t238 0) else (some false))) else (if (t238.length : Int) = 0 then ((impl_UnitsOk.f (([] : List (S32)))).bind fun t245 => (some t245)) else (some false))))))) = some r := H
  have A2 := Aside0.mk A20
  clear A20
  by_cases c3 : t231 = true
  · subst c3
    have H1 : (some true) = some r := by rw [if_pos rfl] at H; exact H
    clear H
    have H := H1
    clear H1
    obtain rfl := Option.some.inj H
    go_enter Try.func3, Try.ntmps3
    go_wp2_with (first | ((with_reducible refine gate_callee (f := 10) rfl ?_); refine goesL_ (some 12) rfl rfl Try.func10 (by kernel_rfl) rfl #[.slice A0 l0.length c0] rfl (by (try simp only [List.map_toArray, List.map_cons, List.map_nil]); first | done | rfl | (simp only [List.length_drop, List.length_take]; rfl)) ?_; (with_reducible refine (laws_big.calls _ _ l0 true _ ?side1 ?side2 A2.out).mono ?_); (case side1 => repeat (first | exact HR0.out | (with_reducible refine Kd.C_alloc ?_ _) | (with_reducible refine Kd.C_drewN ?_ _) | (with_reducible refine Kd.C_drew ?_))); (case side2 => exact HC0.out); rintro e w' ⟨rfl, ⟨nd, rfl⟩⟩; refine ⟨_, rfl, ?_⟩))
    go_ret
    exact ⟨by first | rfl | (simp [errW_none, errW_some] <;> rfl) | (simp [*, errW_none, errW_some] <;> rfl), by repeat (first | (with_reducible first | exact HB.out | apply below_alloc | apply pw_below_drewN | apply below_drew1) | exact HB.out)⟩
  · replace c3 := Bool.eq_false_iff.mpr c3
    subst c3
    have H1 : ((spec_DrawFailing.f k l0).bind fun bt232 => ((impl_Failing.f bt232.1 bt232.2).bind fun t238 => ((spec_UnitsOk.f bt232.1).bind fun t241 => (if t241 = true then ((spec_Failing.f k bt232.1 bt232.2).bind fun t246 => (if (t238.length : Int) = (t246.length : Int) then (laws_FnFailing.l0 k bt232.1 bt232.2 t238 0) else (some false))) else (if (t238.length : Int) = 0 then ((impl_UnitsOk.f (([] : List (S32)))).bind fun t245 => (some t245)) else (some false)))))) = some r := by rw [if_neg (show ¬ (false = true) by decide)] at H; exact H
    clear H
    have H := H1
    clear H1
    replace H := Option.bind_eq_some_iff.mp H
    obtain ⟨⟨t232, t233⟩, A40, H⟩ := H
    replace H : ((impl_Failing.f t232 t233).bind fun t238 => ((spec_UnitsOk.f t232).bind fun t241 => (if t241 = true then ((spec_Failing.f k t232 t233).bind fun t246 => (if (t238.length : Int) = (t246.length : Int) then (laws_FnFailing.l0 k t232 t233 t238 0) else (some false))) else (if (t238.length : Int) = 0 then ((impl_UnitsOk.f (([] : List (S32)))).bind fun t245 => (some t245)) else (some false))))) = some r := H
    have A4 := Aside0.mk A40
    clear A40
    replace H := Option.bind_eq_some_iff.mp H
    obtain ⟨t238, A50, H⟩ := H
    replace H : ((spec_UnitsOk.f t232).bind fun t241 => (if t241 = true then ((spec_Failing.f k t232 t233).bind fun t246 => (if (t238.length : Int) = (t246.length : Int) then (laws_FnFailing.l0 k t232 t233 t238 0) else (some false))) else (if (t238.length : Int) = 0 then ((impl_UnitsOk.f (([] : List (S32)))).bind fun t245 => (some t245)) else (some false)))) = some r := H
    have A5 := Aside0.mk A50
    clear A50
    replace H := Option.bind_eq_some_iff.mp H
    obtain ⟨t241, A60, H⟩ := H
    replace H : (if t241 = true then ((spec_Failing.f k t232 t233).bind fun t246 => (if (t238.length : Int) = (t246.length : Int) then (laws_FnFailing.l0 k t232 t233 t238 0) else (some false))) else (if (t238.length : Int) = 0 then ((impl_UnitsOk.f (([] : List (S32)))).bind fun t245 => (some t245)) else (some false))) = some r := H
    have A6 := Aside0.mk A60
    clear A60
    by_cases c7 : t241 = true
    · subst c7
      have H1 : ((spec_Failing.f k t232 t233).bind fun t246 => (if (t238.length : Int) = (t246.length : Int) then (laws_FnFailing.l0 k t232 t233 t238 0) else (some false))) = some r := by rw [if_pos rfl] at H; exact H
      clear H
      have H := H1
      clear H1
      replace H := Option.bind_eq_some_iff.mp H
      obtain ⟨t246, A80, H⟩ := H
      replace H : (if (t238.length : Int) = (t246.length : Int) then (laws_FnFailing.l0 k t232 t233 t238 0) else (some false)) = some r := H
      have A8 := Aside0.mk A80
      clear A80
      by_cases c9 : (t238.length : Int) = (t246.length : Int)
      · rw [if_pos c9] at H
        have c9b0 : ((t238.length : Int) == (t246.length : Int)) = true := beq_iff_eq.mpr c9
        have c9b1 : ((t238.length : Int) != (t246.length : Int)) = false := bne_eq_false_iff_eq.mpr c9
        have c9b2 : (t238.length == t246.length) = true := by first | simpa using c9 | (simp at c9 ⊢; omega)
        clear c9
        have H' := Aside0.mk H
        clear H
        go_enter Try.func3, Try.ntmps3
        go_wp2_with (first | ((with_reducible refine gate_callee (f := 10) rfl ?_); refine goesL_ (some 12) rfl rfl Try.func10 (by kernel_rfl) rfl #[.slice A0 l0.length c0] rfl (by (try simp only [List.map_toArray, List.map_cons, List.map_nil]); first | done | rfl | (simp only [List.length_drop, List.length_take]; rfl)) ?_; (with_reducible refine (laws_big.calls _ _ l0 false _ ?side1 ?side2 A2.out).mono ?_); (case side1 => repeat (first | exact HR0.out | (with_reducible refine Kd.C_alloc ?_ _) | (with_reducible refine Kd.C_drewN ?_ _) | (with_reducible refine Kd.C_drew ?_))); (case side2 => exact HC0.out); rintro e w' ⟨rfl, ⟨nd, rfl⟩⟩; refine ⟨_, rfl, ?_⟩) | ((with_reducible refine gate_callee (f := 11) rfl ?_); refine goesL_ (some 15) rfl rfl Try.func11 (by kernel_rfl) rfl #[.slice A0 l0.length c0] rfl (by (try simp only [List.map_toArray, List.map_cons, List.map_nil]); first | done | rfl | (simp only [List.length_drop, List.length_take]; rfl)) ?_; (with_reducible refine (spec_DrawFailing.calls k _ _ l0 t232 t233 _ ?side1 ?side2 A4.out).mono ?_); (case side1 => repeat (first | exact HR0.out | (with_reducible refine Kd.C_alloc ?_ _) | (with_reducible refine Kd.C_drewN ?_ _) | (with_reducible refine Kd.C_drew ?_))); (case side2 => exact HC0.out); rintro e w10 ⟨v234, v236, rfl, ho0, ho1, hb⟩; refine ⟨_, rfl, ?_⟩; have n0_ := Aside0.mk (Kd.S_lower ho0 (below_size (by repeat (first | (with_reducible first | exact HB.out | apply below_alloc | apply pw_below_drewN | apply below_drew1) | exact HB.out)))); have n1_ := Aside0.mk (Kd.R_lower ho1 (below_size (by repeat (first | (with_reducible first | exact HB.out | apply below_alloc | apply pw_below_drewN | apply below_drew1) | exact HB.out)))); have n2_ := Aside0.mk (below_step (by repeat (first | (with_reducible first | exact HB.out | apply below_alloc | apply pw_below_drewN | apply below_drew1) | exact HB.out)) hb); clear HB; have HO235 := n0_; have HO237 := n1_; have HB := n2_; clear n0_ n1_ n2_; (try clear hb); (try clear hb2); (try clear hk); (try clear hi); (try clear ho0); (try clear ho1); obtain ⟨Ao11, co11, eo11⟩ := Kd.S_slice HO235.out; subst eo11; obtain ⟨Ao12, co12, eo12⟩ := Kd.R_slice HO237.out; subst eo12) | ((with_reducible refine gate_callee (f := 12) rfl ?_); refine goesL_ (some 20) rfl rfl Try.func12 (by kernel_rfl) rfl #[.slice Ao11 t232.length co11, .slice Ao12 t233.length co12] rfl (by (try simp only [List.map_toArray, List.map_cons, List.map_nil]); first | done | rfl | (simp only [List.length_drop, List.length_take]; rfl)) ?_; (with_reducible refine (impl_Failing.calls _ _ t232 _ _ t233 t238 _ ?side1 ?side2 ?side3 ?side4 A5.out).mono ?_); (case side1 => repeat (first | exact (Kd.S_reads' HO235.out).2.2 | (with_reducible refine Kd.C_alloc ?_ _) | (with_reducible refine Kd.C_drewN ?_ _) | (with_reducible refine Kd.C_drew ?_))); (case side2 => exact (Kd.S_reads' HO235.out).2.1); (case side3 => repeat (first | exact (Kd.R_reads' HO237.out).2.2 | (with_reducible refine Kd.C_alloc ?_ _) | (with_reducible refine Kd.C_drewN ?_ _) | (with_reducible refine Kd.C_drew ?_))); (case side4 => exact (Kd.R_reads' HO237.out).2.1); rintro e w13 ⟨v239, rfl, ho0, hb⟩; refine ⟨_, rfl, ?_⟩; have n0_ := Aside0.mk (Kd.S_elder' (by (with_reducible repeat (first | apply Kd.S_alloc | apply Kd.S_drewN | apply Kd.S_drew)); exact HO235.out) (Kd.R_base ho0) hb); have n1_ := Aside0.mk (Kd.R_elder' (by (with_reducible repeat (first | apply Kd.R_alloc | apply Kd.R_drewN | apply Kd.R_drew)); exact HO237.out) (Kd.R_base ho0) hb); have n2_ := Aside0.mk (Kd.R_lower (Kd.R_new' ho0 (Kd.R_lt (by (with_reducible repeat (first | apply Kd.R_alloc | apply Kd.R_drewN | apply Kd.R_drew)); exact HO237.out))) (below_size (by repeat (first | (with_reducible first | exact HB.out | apply below_alloc | apply pw_below_drewN | apply below_drew1) | exact HB.out)))); have n3_ := Aside0.mk (below_step (by repeat (first | (with_reducible first | exact HB.out | apply below_alloc | apply pw_below_drewN | apply below_drew1) | exact HB.out)) hb); clear HO235; clear HO237; clear HB; have HO235 := n0_; have HO237 := n1_; have HO240 := n2_; have HB := n3_; clear n0_ n1_ n2_ n3_; (try clear hb); (try clear hb2); (try clear hk); (try clear hi); (try clear ho0)) | ((with_reducible refine gate_callee (f := 13) rfl ?_); refine goesL_ (some 22) rfl rfl Try.func13 (by kernel_rfl) rfl #[.slice Ao11 t232.length co11] rfl (by (try simp only [List.map_toArray, List.map_cons, List.map_nil]); first | done | rfl | (simp only [List.length_drop, List.length_take]; rfl)) ?_; (with_reducible refine (spec_UnitsOk.calls _ _ t232 true _ ?side1 ?side2 A6.out).mono ?_); (case side1 => repeat (first | exact (Kd.S_reads' HO235.out).2.2 | (with_reducible refine Kd.C_alloc ?_ _) | (with_reducible refine Kd.C_drewN ?_ _) | (with_reducible refine Kd.C_drew ?_))); (case side2 => exact (Kd.S_reads' HO235.out).2.1); rintro e w14 ⟨rfl, hb⟩; refine ⟨_, rfl, ?_⟩; have n0_ := Aside0.mk (Kd.S_below (by (with_reducible repeat (first | apply Kd.S_alloc | apply Kd.S_drewN | apply Kd.S_drew)); exact HO235.out) hb); have n1_ := Aside0.mk (Kd.R_below (by (with_reducible repeat (first | apply Kd.R_alloc | apply Kd.R_drewN | apply Kd.R_drew)); exact HO237.out) hb); have n2_ := Aside0.mk (Kd.R_below (by (with_reducible repeat (first | apply Kd.R_alloc | apply Kd.R_drewN | apply Kd.R_drew)); exact HO240.out) hb); have n3_ := Aside0.mk (below_step (by repeat (first | (with_reducible first | exact HB.out | apply below_alloc | apply pw_below_drewN | apply below_drew1) | exact HB.out)) hb); clear HO235; clear HO237; clear HO240; clear HB; have HO235 := n0_; have HO237 := n1_; have HO240 := n2_; have HB := n3_; clear n0_ n1_ n2_ n3_; (try clear hb); (try clear hb2); (try clear hk); (try clear hi); obtain ⟨Ao15, co15, eo15⟩ := Kd.R_slice HO240.out; subst eo15) | ((with_reducible refine gate_callee (f := 15) rfl ?_); refine goesL_ (some 35) rfl rfl Try.func15 (by kernel_rfl) rfl #[.slice Ao11 t232.length co11, .slice Ao12 t233.length co12] rfl (by (try simp only [List.map_toArray, List.map_cons, List.map_nil]); first | done | rfl | (simp only [List.length_drop, List.length_take]; rfl)) ?_; (with_reducible refine (spec_Failing.calls k _ _ t232 _ _ t233 t246 _ ?side1 ?side2 ?side3 ?side4 A8.out).mono ?_); (case side1 => repeat (first | exact (Kd.S_reads' HO235.out).2.2 | (with_reducible refine Kd.C_alloc ?_ _) | (with_reducible refine Kd.C_drewN ?_ _) | (with_reducible refine Kd.C_drew ?_))); (case side2 => exact (Kd.S_reads' HO235.out).2.1); (case side3 => repeat (first | exact (Kd.R_reads' HO237.out).2.2 | (with_reducible refine Kd.C_alloc ?_ _) | (with_reducible refine Kd.C_drewN ?_ _) | (with_reducible refine Kd.C_drew ?_))); (case side4 => exact (Kd.R_reads' HO237.out).2.1); rintro e w16 ⟨v247, rfl, ho0, hb⟩; refine ⟨_, rfl, ?_⟩; have n0_ := Aside0.mk (Kd.S_elder' (by (with_reducible repeat (first | apply Kd.S_alloc | apply Kd.S_drewN | apply Kd.S_drew)); exact HO235.out) (Kd.R_base ho0) hb); have n1_ := Aside0.mk (Kd.R_elder' (by (with_reducible repeat (first | apply Kd.R_alloc | apply Kd.R_drewN | apply Kd.R_drew)); exact HO237.out) (Kd.R_base ho0) hb); have n2_ := Aside0.mk (Kd.R_elder' (by (with_reducible repeat (first | apply Kd.R_alloc | apply Kd.R_drewN | apply Kd.R_drew)); exact HO240.out) (Kd.R_base ho0) hb); have n3_ := Aside0.mk (Kd.R_lower (Kd.R_new' (Kd.R_new' ho0 (Kd.R_lt (by (with_reducible repeat (first | apply Kd.R_alloc | apply Kd.R_drewN | apply Kd.R_drew)); exact HO237.out))) (Kd.R_lt (by (with_reducible repeat (first | apply Kd.R_alloc | apply Kd.R_drewN | apply Kd.R_drew)); exact HO240.out))) (below_size (by repeat (first | (with_reducible first | exact HB.out | apply below_alloc | apply pw_below_drewN | apply below_drew1) | exact HB.out)))); have n4_ := Aside0.mk (below_step (by repeat (first | (with_reducible first | exact HB.out | apply below_alloc | apply pw_below_drewN | apply below_drew1) | exact HB.out)) hb); clear HO235; clear HO237; clear HO240; clear HB; have HO235 := n0_; have HO237 := n1_; have HO240 := n2_; have HO248 := n3_; have HB := n4_; clear n0_ n1_ n2_ n3_ n4_; (try clear hb); (try clear hb2); (try clear hk); (try clear hi); (try clear ho0); obtain ⟨Ao17, co17, eo17⟩ := Kd.R_slice HO248.out; subst eo17))
        go_loopg [6] k (fun kq v6 w' => ∃ (x6_1 : Int), v6 = .int .i64 x6_1 ∧ Aside0 (laws_FnFailing.l0 kq t232 t233 t238 x6_1 = some r) ∧ Aside0 (kq ≤ k) ∧ Aside0 (Kd.S k32 32 w' w.heap.size (fun k_ => some k_ ≠ ((.slice Ao12 t233.length co12) : Value).ownBlock ∧ some k_ ≠ ((.slice Ao15 t238.length co15) : Value).ownBlock) (.slice Ao11 t232.length co11) t232) ∧ Aside0 (Kd.R Kd.string 9 w' w.heap.size (fun k_ => some k_ ≠ ((.slice Ao15 t238.length co15) : Value).ownBlock) (.slice Ao12 t233.length co12) t233) ∧ Aside0 (Kd.R Kd.string 9 w' w.heap.size (fun k_ => some k_ ≠ ((.slice Ao12 t233.length co12) : Value).ownBlock) (.slice Ao15 t238.length co15) t238) ∧ Aside0 (Below w.heap.size w w'))
        case atStart => exact ⟨(0), (by first | rfl | (simp; done) | (simp [*]; done)), H', ⟨Nat.le_refl _⟩, ⟨by (with_reducible repeat (first | apply Kd.S_alloc | apply Kd.S_drewN | apply Kd.S_drew)); exact Kd.S_mono HO235.out (fun _ hk => ⟨hk.1.1, hk.1.2⟩)⟩, ⟨by (with_reducible repeat (first | apply Kd.R_alloc | apply Kd.R_drewN | apply Kd.R_drew)); exact Kd.R_mono HO237.out (fun _ hk => hk.1.2)⟩, ⟨by (with_reducible repeat (first | apply Kd.R_alloc | apply Kd.R_drewN | apply Kd.R_drew)); exact Kd.R_mono HO240.out (fun _ hk => hk.1.2)⟩, ⟨by repeat (first | (with_reducible first | exact HB.out | apply below_alloc | apply pw_below_drewN | apply below_drew1) | exact HB.out)⟩⟩
        case round =>
          clear H'
          try clear c1
          try clear p2
          try clear c3
          try clear c7
          try clear c9
          try clear c9b0
          try clear c9b1
          try clear c9b2
          try clear c10
          try clear c11
          try clear c12
          try clear c13
          try clear c15
          obtain ⟨x6_1, rfl, HA, HK1, HO_3, HO_4, HO_5, HB⟩ := hrel
          cases gk with
          | zero => exact absurd HA.out (by simp [laws_FnFailing.l0])
          | succ k1 =>
            have H := HA.out
            clear HA
            simp only [laws_FnFailing.l0] at H
            by_cases c18 : x6_1 < (t232.length : Int)
            · rw [if_pos c18] at H
              have c18b0 : decide (x6_1 < (t232.length : Int)) = true := decide_eq_true c18
              clear c18
              by_cases c19 : 0 ≤ x6_1
              · rw [if_pos c19] at H
                have c19b0 : decide (0 ≤ x6_1) = true := decide_eq_true c19
                clear c19
                replace H := Option.bind_eq_some_iff.mp H
                obtain ⟨t250, A200, H⟩ := H
                replace H : (laws_FnFailing.l1 k1 t232 t233 t238 x6_1 t250 0) = some r := H
                have A20 := Aside0.mk A200
                clear A200
                have H' := Aside0.mk H
                clear H
                have p249 : 0 ≤ (x6_1 : Int) := of_decide_eq_true (by first | (with_reducible assumption) | assumption)
                have q249 : x6_1 < (t232.length : Int) := of_decide_eq_true (by first | (with_reducible assumption) | assumption)
                obtain ⟨ad249, A249_1, c249_1, A249_2, c249_2, e249, hx249_0, hx249_1, hx249_2, hx249_3, hx249_4, hl249_1, hi249_1, hl249_2, hi249_2⟩ := at_T32 (Kd.S_reads' HO_3.out).2.2 x6_1 p249 q249
                cases e249
                obtain ⟨ce249, hce249, hMe249, hcc249⟩ := Kd.S_get HO_3.out z32 x6_1 p249 (by first | exact q249 | exact of_decide_eq_true (by first | (with_reducible assumption) | assumption) | (have e_ := (Kd.S_reads' HO_3.out).1; omega))
                obtain ⟨ve249_1, ve249_2, rfl, ge249_1, ge249_2⟩ := k32_openM hMe249
                have hv249_1 := hcc249 1 _ rfl
                rw [add_field _ _ 1 (by omega)] at hv249_1
                replace hv249_1 := Option.some.inj (hv249_1.symm.trans hx249_1)
                rw [hv249_1] at ge249_1
                have HL249_1 := Aside0.mk (show Kd.R Kd.string 9 _ _ _ _ ((rd_T32 t232 x6_1).f1) from ge249_1)
                clear hv249_1 ge249_1
                have hv249_2 := hcc249 2 _ rfl
                rw [add_field _ _ 2 (by omega)] at hv249_2
                replace hv249_2 := Option.some.inj (hv249_2.symm.trans hx249_2)
                rw [hv249_2] at ge249_2
                have HL249_2 := Aside0.mk (show Kd.R Kd.string 9 _ _ _ _ ((rd_T32 t232 x6_1).f2) from ge249_2)
                clear hv249_2 ge249_2
                clear hcc249 hce249
                have HR249_1 := Aside0.mk hi249_1
                have HC249_1 := Aside0.mk hl249_1
                clear hi249_1 hl249_1
                have HR249_2 := Aside0.mk hi249_2
                have HC249_2 := Aside0.mk hl249_2
                clear hi249_2 hl249_2
                replace p249 := eq_true p249
                replace q249 := eq_true q249
                go_wp2_with (first | ((with_reducible refine gate_callee (f := 16) rfl ?_); refine goesL_ (some 50) rfl rfl Try.func16 (by kernel_rfl) rfl #[.slice Ao12 t233.length co12, .string ((rd_T32 t232 x6_1).f0)] rfl (by (try simp only [List.map_toArray, List.map_cons, List.map_nil]); first | done | rfl | (simp only [List.length_drop, List.length_take]; rfl)) ?_; (with_reducible refine (laws_has.calls k1 _ _ t233 ((rd_T32 t232 x6_1).f0) t250 _ ?side1 ?side2 A20.out).mono ?_); (case side1 => repeat (first | exact (Kd.R_reads' HO_4.out).2.2 | (with_reducible refine Kd.C_alloc ?_ _) | (with_reducible refine Kd.C_drewN ?_ _) | (with_reducible refine Kd.C_drew ?_))); (case side2 => exact (Kd.R_reads' HO_4.out).2.1); rintro e w' ⟨rfl, ⟨nd, rfl⟩⟩; refine ⟨_, rfl, ?_⟩))
                go_loopg [7, 8] k1 (fun kq v7 v8 w' => ∃ (x7_2 : Bool) (x8_2 : Int), v7 = .bool x7_2 ∧ v8 = .int .i64 x8_2 ∧ Aside0 (laws_FnFailing.l1 kq t232 t233 t238 x6_1 x7_2 x8_2 = some r) ∧ Aside0 (kq ≤ k1) ∧ Aside0 (Kd.S k32 32 w' w.heap.size (fun k_ => some k_ ≠ ((.slice Ao12 t233.length co12) : Value).ownBlock ∧ some k_ ≠ ((.slice Ao15 t238.length co15) : Value).ownBlock) (.slice (some ad249) t232.length co11) t232) ∧ Aside0 (Kd.R Kd.string 9 w' w.heap.size (fun k_ => some k_ ≠ ((.slice Ao15 t238.length co15) : Value).ownBlock) (.slice Ao12 t233.length co12) t233) ∧ Aside0 (Kd.R Kd.string 9 w' w.heap.size (fun k_ => some k_ ≠ ((.slice Ao12 t233.length co12) : Value).ownBlock) (.slice Ao15 t238.length co15) t238) ∧ Aside0 (Kd.C Kd.string w' A249_1 ((rd_T32 t232 x6_1).f1).length ((rd_T32 t232 x6_1).f1)) ∧ Aside0 (Kd.C Kd.string w' A249_2 ((rd_T32 t232 x6_1).f2).length ((rd_T32 t232 x6_1).f2)) ∧ Aside0 (Below w.heap.size w w'))
                case atStart => exact ⟨(t250), (0), (by first | rfl | (simp; done) | (simp [*]; done)), (by first | rfl | (simp; done) | (simp [*]; done)), H', ⟨Nat.le_refl _⟩, ⟨by (with_reducible repeat (first | apply Kd.S_alloc | apply Kd.S_drewN | apply Kd.S_drew)); exact HO_3.out⟩, ⟨by (with_reducible repeat (first | apply Kd.R_alloc | apply Kd.R_drewN | apply Kd.R_drew)); exact HO_4.out⟩, ⟨by (with_reducible repeat (first | apply Kd.R_alloc | apply Kd.R_drewN | apply Kd.R_drew)); exact HO_5.out⟩, ⟨by repeat (first | (with_reducible exact HR249_1.out) | (with_reducible refine Kd.C_alloc ?_ _) | (with_reducible refine Kd.C_drewN ?_ _) | (with_reducible refine Kd.C_drew ?_) | exact HR249_1.out)⟩, ⟨by repeat (first | (with_reducible exact HR249_2.out) | (with_reducible refine Kd.C_alloc ?_ _) | (with_reducible refine Kd.C_drewN ?_ _) | (with_reducible refine Kd.C_drew ?_) | exact HR249_2.out)⟩, ⟨by repeat (first | (with_reducible first | exact HB.out | apply below_alloc | apply pw_below_drewN | apply below_drew1) | exact HB.out)⟩⟩
                case round =>
                  clear H'
                  try clear c1
                  try clear c2
                  try clear p2
                  try clear q2
                  try clear hx2
                  try clear c3
                  try clear c7
                  try clear c9
                  try clear c9b0
                  try clear c9b1
                  try clear c9b2
                  try clear c10
                  try clear c11
                  try clear c12
                  try clear c13
                  try clear c15
                  try clear c16
                  try clear c18
                  try clear c18b0
                  try clear c19
                  try clear c19b0
                  try clear hx249_0
                  try clear hx249_1
                  try clear hx249_2
                  try clear hx249_3
                  try clear hx249_4
                  try clear p2
                  try clear p249
                  try clear q249
                  obtain ⟨x7_2, x8_2, rfl, rfl, HA, HK2, HO_3, HO_4, HO_5, HR249_1, HR249_2, HB⟩ := hrel
                  cases gk with
                  | zero => exact absurd HA.out (by simp [laws_FnFailing.l1])
                  | succ k2 =>
                    have H := HA.out
                    clear HA
                    simp only [laws_FnFailing.l1] at H
                    by_cases c21 : 0 ≤ x6_1
                    · rw [if_pos c21] at H
                      have c21b0 : decide (0 ≤ x6_1) = true := decide_eq_true c21
                      clear c21
                      by_cases c22 : x6_1 < (t232.length : Int)
                      · rw [if_pos c22] at H
                        have c22b0 : decide (x6_1 < (t232.length : Int)) = true := decide_eq_true c22
                        clear c22
                        by_cases c23 : x8_2 < (((rd_T32 t232 x6_1).f2).length : Int)
                        · rw [if_pos c23] at H
                          have c23b0 : decide (x8_2 < (((rd_T32 t232 x6_1).f2).length : Int)) = true := decide_eq_true c23
                          clear c23
                          by_cases c24 : x7_2 = true
                          · subst c24
                            have H1 : (laws_FnFailing.l1 k2 t232 t233 t238 x6_1 true (wrap64 (x8_2 + 1))) = some r := by rw [if_pos rfl] at H; exact H
                            clear H
                            have H := H1
                            clear H1
                            have H' := Aside0.mk H
                            clear H
                            have p251 : 0 ≤ (x6_1 : Int) := of_decide_eq_true (by first | (with_reducible assumption) | assumption)
                            have q251 : x6_1 < (t232.length : Int) := of_decide_eq_true (by first | (with_reducible assumption) | assumption)
                            obtain ⟨ad251, A251_1, c251_1, A251_2, c251_2, e251, hx251_0, hx251_1, hx251_2, hx251_3, hx251_4, hl251_1, hi251_1, hl251_2, hi251_2⟩ := at_T32 (Kd.S_reads' HO_3.out).2.2 x6_1 p251 q251
                            obtain rfl : ad249 = ad251 := (by injection e251)
                            obtain ⟨ce251, hce251, hMe251, hcc251⟩ := Kd.S_get HO_3.out z32 x6_1 p251 (by first | exact q251 | exact of_decide_eq_true (by first | (with_reducible assumption) | assumption) | (have e_ := (Kd.S_reads' HO_3.out).1; omega))
                            obtain ⟨ve251_1, ve251_2, rfl, ge251_1, ge251_2⟩ := k32_openM hMe251
                            have hv251_1 := hcc251 1 _ rfl
                            rw [add_field _ _ 1 (by omega)] at hv251_1
                            replace hv251_1 := Option.some.inj (hv251_1.symm.trans hx251_1)
                            rw [hv251_1] at ge251_1
                            have HL251_1 := Aside0.mk (show Kd.R Kd.string 9 _ _ _ _ ((rd_T32 t232 x6_1).f1) from ge251_1)
                            clear hv251_1 ge251_1
                            have hv251_2 := hcc251 2 _ rfl
                            rw [add_field _ _ 2 (by omega)] at hv251_2
                            replace hv251_2 := Option.some.inj (hv251_2.symm.trans hx251_2)
                            rw [hv251_2] at ge251_2
                            have HL251_2 := Aside0.mk (show Kd.R Kd.string 9 _ _ _ _ ((rd_T32 t232 x6_1).f2) from ge251_2)
                            clear hv251_2 ge251_2
                            clear hcc251 hce251
                            have HR251_1 := Aside0.mk hi251_1
                            have HC251_1 := Aside0.mk hl251_1
                            clear hi251_1 hl251_1
                            have HR251_2 := Aside0.mk hi251_2
                            have HC251_2 := Aside0.mk hl251_2
                            clear hi251_2 hl251_2
                            replace p251 := eq_true p251
                            replace q251 := eq_true q251
                            go_wp2
                            go_roundg k2
                            case measure => have := HK1.out; have := HK2.out; omega
                            case rel => exact ⟨(true), (wrap64 (x8_2 + 1)), (by first | rfl | (simp; done) | (simp [*]; done)), (by first | rfl | (simp; done) | (simp [*]; done)), H', ⟨by have := HK1.out; have := HK2.out; omega⟩, ⟨by (with_reducible repeat (first | apply Kd.S_alloc | apply Kd.S_drewN | apply Kd.S_drew)); exact HO_3.out⟩, ⟨by (with_reducible repeat (first | apply Kd.R_alloc | apply Kd.R_drewN | apply Kd.R_drew)); exact HO_4.out⟩, ⟨by (with_reducible repeat (first | apply Kd.R_alloc | apply Kd.R_drewN | apply Kd.R_drew)); exact HO_5.out⟩, ⟨by repeat (first | (with_reducible exact HR249_1.out) | (with_reducible refine Kd.C_alloc ?_ _) | (with_reducible refine Kd.C_drewN ?_ _) | (with_reducible refine Kd.C_drew ?_) | exact HR249_1.out)⟩, ⟨by repeat (first | (with_reducible exact HR249_2.out) | (with_reducible refine Kd.C_alloc ?_ _) | (with_reducible refine Kd.C_drewN ?_ _) | (with_reducible refine Kd.C_drew ?_) | exact HR249_2.out)⟩, ⟨by repeat (first | (with_reducible first | exact HB.out | apply below_alloc | apply pw_below_drewN | apply below_drew1) | exact HB.out)⟩⟩
                          · replace c24 := Bool.eq_false_iff.mpr c24
                            subst c24
                            have H1 : (if 0 ≤ x8_2 then ((laws_unit.f k2 t232 (rdOf ByteArray.empty ((rd_T32 t232 x6_1).f2) x8_2)).bind fun t254 => (if t254 < 0 then (laws_FnFailing.l1 k2 t232 t233 t238 x6_1 true (wrap64 (x8_2 + 1))) else ((laws_has.f k2 t238 (rdOf ByteArray.empty ((rd_T32 t232 x6_1).f2) x8_2)).bind fun t257 => (laws_FnFailing.l1 k2 t232 t233 t238 x6_1 t257 (wrap64 (x8_2 + 1)))))) else (none)) = some r := by rw [if_neg (show ¬ (false = true) by decide)] at H; exact H
                            clear H
                            have H := H1
                            clear H1
                            by_cases c25 : 0 ≤ x8_2
                            · rw [if_pos c25] at H
                              have c25b0 : decide (0 ≤ x8_2) = true := decide_eq_true c25
                              clear c25
                              replace H := Option.bind_eq_some_iff.mp H
                              obtain ⟨t254, A260, H⟩ := H
                              replace H : (if t254 < 0 then (laws_FnFailing.l1 k2 t232 t233 t238 x6_1 true (wrap64 (x8_2 + 1))) else ((laws_has.f k2 t238 (rdOf ByteArray.empty ((rd_T32 t232 x6_1).f2) x8_2)).bind fun t257 => (laws_FnFailing.l1 k2 t232 t233 t238 x6_1 t257 (wrap64 (x8_2 + 1))))) = some r := H
                              have A26 := Aside0.mk A260
                              clear A260
                              by_cases c27 : t254 < 0
                              · rw [if_pos c27] at H
                                have c27b0 : decide (t254 < 0) = true := decide_eq_true c27
                                clear c27
                                have H' := Aside0.mk H
                                clear H
                                have p251 : 0 ≤ (x6_1 : Int) := of_decide_eq_true (by first | (with_reducible assumption) | assumption)
                                have q251 : x6_1 < (t232.length : Int) := of_decide_eq_true (by first | (with_reducible assumption) | assumption)
                                obtain ⟨ad251, A251_1, c251_1, A251_2, c251_2, e251, hx251_0, hx251_1, hx251_2, hx251_3, hx251_4, hl251_1, hi251_1, hl251_2, hi251_2⟩ := at_T32 (Kd.S_reads' HO_3.out).2.2 x6_1 p251 q251
                                obtain rfl : ad249 = ad251 := (by injection e251)
                                obtain ⟨ce251, hce251, hMe251, hcc251⟩ := Kd.S_get HO_3.out z32 x6_1 p251 (by first | exact q251 | exact of_decide_eq_true (by first | (with_reducible assumption) | assumption) | (have e_ := (Kd.S_reads' HO_3.out).1; omega))
                                obtain ⟨ve251_1, ve251_2, rfl, ge251_1, ge251_2⟩ := k32_openM hMe251
                                have hv251_1 := hcc251 1 _ rfl
                                rw [add_field _ _ 1 (by omega)] at hv251_1
                                replace hv251_1 := Option.some.inj (hv251_1.symm.trans hx251_1)
                                rw [hv251_1] at ge251_1
                                have HL251_1 := Aside0.mk (show Kd.R Kd.string 9 _ _ _ _ ((rd_T32 t232 x6_1).f1) from ge251_1)
                                clear hv251_1 ge251_1
                                have hv251_2 := hcc251 2 _ rfl
                                rw [add_field _ _ 2 (by omega)] at hv251_2
                                replace hv251_2 := Option.some.inj (hv251_2.symm.trans hx251_2)
                                rw [hv251_2] at ge251_2
                                have HL251_2 := Aside0.mk (show Kd.R Kd.string 9 _ _ _ _ ((rd_T32 t232 x6_1).f2) from ge251_2)
                                clear hv251_2 ge251_2
                                clear hcc251 hce251
                                have HR251_1 := Aside0.mk hi251_1
                                have HC251_1 := Aside0.mk hl251_1
                                clear hi251_1 hl251_1
                                have HR251_2 := Aside0.mk hi251_2
                                have HC251_2 := Aside0.mk hl251_2
                                clear hi251_2 hl251_2
                                replace p251 := eq_true p251
                                replace q251 := eq_true q251
                                have p252 : 0 ≤ (x6_1 : Int) := of_decide_eq_true (by first | (with_reducible assumption) | assumption)
                                have q252 : x6_1 < (t232.length : Int) := of_decide_eq_true (by first | (with_reducible assumption) | assumption)
                                obtain ⟨ad252, A252_1, c252_1, A252_2, c252_2, e252, hx252_0, hx252_1, hx252_2, hx252_3, hx252_4, hl252_1, hi252_1, hl252_2, hi252_2⟩ := at_T32 (Kd.S_reads' HO_3.out).2.2 x6_1 p252 q252
                                obtain rfl : ad249 = ad252 := (by injection e252)
                                obtain ⟨ce252, hce252, hMe252, hcc252⟩ := Kd.S_get HO_3.out z32 x6_1 p252 (by first | exact q252 | exact of_decide_eq_true (by first | (with_reducible assumption) | assumption) | (have e_ := (Kd.S_reads' HO_3.out).1; omega))
                                obtain ⟨ve252_1, ve252_2, rfl, ge252_1, ge252_2⟩ := k32_openM hMe252
                                have hv252_1 := hcc252 1 _ rfl
                                rw [add_field _ _ 1 (by omega)] at hv252_1
                                replace hv252_1 := Option.some.inj (hv252_1.symm.trans hx252_1)
                                rw [hv252_1] at ge252_1
                                have HL252_1 := Aside0.mk (show Kd.R Kd.string 9 _ _ _ _ ((rd_T32 t232 x6_1).f1) from ge252_1)
                                clear hv252_1 ge252_1
                                have hv252_2 := hcc252 2 _ rfl
                                rw [add_field _ _ 2 (by omega)] at hv252_2
                                replace hv252_2 := Option.some.inj (hv252_2.symm.trans hx252_2)
                                rw [hv252_2] at ge252_2
                                have HL252_2 := Aside0.mk (show Kd.R Kd.string 9 _ _ _ _ ((rd_T32 t232 x6_1).f2) from ge252_2)
                                clear hv252_2 ge252_2
                                clear hcc252 hce252
                                have HR252_1 := Aside0.mk hi252_1
                                have HC252_1 := Aside0.mk hl252_1
                                clear hi252_1 hl252_1
                                have HR252_2 := Aside0.mk hi252_2
                                have HC252_2 := Aside0.mk hl252_2
                                clear hi252_2 hl252_2
                                replace p252 := eq_true p252
                                replace q252 := eq_true q252
                                have ea_ := Option.some.inj (hx251_1.symm.trans hx252_1)
                                injection ea_ with ea_ en_ ec_
                                subst ea_
                                subst ec_
                                clear en_
                                have ea_ := Option.some.inj (hx251_2.symm.trans hx252_2)
                                injection ea_ with ea_ en_ ec_
                                subst ea_
                                subst ec_
                                clear en_
                                have p253 : 0 ≤ (x8_2 : Int) := of_decide_eq_true (by first | (with_reducible assumption) | assumption)
                                have q253 : x8_2 < (((rd_T32 t232 x6_1).f2).length : Int) := of_decide_eq_true (by first | (with_reducible assumption) | assumption)
                                obtain ⟨ad253, e253, hx253_0⟩ := Kd.at_string (by repeat (first | (with_reducible exact HR252_2.out) | (with_reducible refine Kd.C_alloc ?_ _) | (with_reducible refine Kd.C_drewN ?_ _) | (with_reducible refine Kd.C_drew ?_) | exact HR252_2.out)) x8_2 p253 q253
                                cases e253
                                replace p253 := eq_true p253
                                replace q253 := eq_true q253
                                go_wp2_with (first | (go_at_call 17; (with_reducible refine (laws_unit.calls k2 _ _ t232 (rdOf ByteArray.empty ((rd_T32 t232 x6_1).f2) x8_2) t254 _ ?side1 ?side2 A26.out).mono ?_); (case side1 => repeat (first | exact (Kd.S_reads' HO_3.out).2.2 | (with_reducible refine Kd.C_alloc ?_ _) | (with_reducible refine Kd.C_drewN ?_ _) | (with_reducible refine Kd.C_drew ?_))); (case side2 => exact (Kd.S_reads' HO_3.out).2.1); rintro e w' ⟨rfl, ⟨nd, rfl⟩⟩))
                                go_roundg k2
                                case measure => have := HK1.out; have := HK2.out; omega
                                case rel => exact ⟨(true), (wrap64 (x8_2 + 1)), (by first | rfl | (simp; done) | (simp [*]; done)), (by first | rfl | (simp; done) | (simp [*]; done)), H', ⟨by have := HK1.out; have := HK2.out; omega⟩, ⟨by (with_reducible repeat (first | apply Kd.S_alloc | apply Kd.S_drewN | apply Kd.S_drew)); exact HO_3.out⟩, ⟨by (with_reducible repeat (first | apply Kd.R_alloc | apply Kd.R_drewN | apply Kd.R_drew)); exact HO_4.out⟩, ⟨by (with_reducible repeat (first | apply Kd.R_alloc | apply Kd.R_drewN | apply Kd.R_drew)); exact HO_5.out⟩, ⟨by repeat (first | (with_reducible exact HR249_1.out) | (with_reducible refine Kd.C_alloc ?_ _) | (with_reducible refine Kd.C_drewN ?_ _) | (with_reducible refine Kd.C_drew ?_) | exact HR249_1.out)⟩, ⟨by repeat (first | (with_reducible exact HR249_2.out) | (with_reducible refine Kd.C_alloc ?_ _) | (with_reducible refine Kd.C_drewN ?_ _) | (with_reducible refine Kd.C_drew ?_) | exact HR249_2.out)⟩, ⟨by repeat (first | (with_reducible first | exact HB.out | apply below_alloc | apply pw_below_drewN | apply below_drew1) | exact HB.out)⟩⟩
                              · rw [if_neg c27] at H
                                have c27b0 : decide (t254 < 0) = false := decide_eq_false c27
                                clear c27
                                replace H := Option.bind_eq_some_iff.mp H
                                obtain ⟨t257, A280, H⟩ := H
                                replace H : (laws_FnFailing.l1 k2 t232 t233 t238 x6_1 t257 (wrap64 (x8_2 + 1))) = some r := H
                                have A28 := Aside0.mk A280
                                clear A280
                                have H' := Aside0.mk H
                                clear H
                                have p251 : 0 ≤ (x6_1 : Int) := of_decide_eq_true (by first | (with_reducible assumption) | assumption)
                                have q251 : x6_1 < (t232.length : Int) := of_decide_eq_true (by first | (with_reducible assumption) | assumption)
                                obtain ⟨ad251, A251_1, c251_1, A251_2, c251_2, e251, hx251_0, hx251_1, hx251_2, hx251_3, hx251_4, hl251_1, hi251_1, hl251_2, hi251_2⟩ := at_T32 (Kd.S_reads' HO_3.out).2.2 x6_1 p251 q251
                                obtain rfl : ad249 = ad251 := (by injection e251)
                                obtain ⟨ce251, hce251, hMe251, hcc251⟩ := Kd.S_get HO_3.out z32 x6_1 p251 (by first | exact q251 | exact of_decide_eq_true (by first | (with_reducible assumption) | assumption) | (have e_ := (Kd.S_reads' HO_3.out).1; omega))
                                obtain ⟨ve251_1, ve251_2, rfl, ge251_1, ge251_2⟩ := k32_openM hMe251
                                have hv251_1 := hcc251 1 _ rfl
                                rw [add_field _ _ 1 (by omega)] at hv251_1
                                replace hv251_1 := Option.some.inj (hv251_1.symm.trans hx251_1)
                                rw [hv251_1] at ge251_1
                                have HL251_1 := Aside0.mk (show Kd.R Kd.string 9 _ _ _ _ ((rd_T32 t232 x6_1).f1) from ge251_1)
                                clear hv251_1 ge251_1
                                have hv251_2 := hcc251 2 _ rfl
                                rw [add_field _ _ 2 (by omega)] at hv251_2
                                replace hv251_2 := Option.some.inj (hv251_2.symm.trans hx251_2)
                                rw [hv251_2] at ge251_2
                                have HL251_2 := Aside0.mk (show Kd.R Kd.string 9 _ _ _ _ ((rd_T32 t232 x6_1).f2) from ge251_2)
                                clear hv251_2 ge251_2
                                clear hcc251 hce251
                                have HR251_1 := Aside0.mk hi251_1
                                have HC251_1 := Aside0.mk hl251_1
                                clear hi251_1 hl251_1
                                have HR251_2 := Aside0.mk hi251_2
                                have HC251_2 := Aside0.mk hl251_2
                                clear hi251_2 hl251_2
                                replace p251 := eq_true p251
                                replace q251 := eq_true q251
                                have p252 : 0 ≤ (x6_1 : Int) := of_decide_eq_true (by first | (with_reducible assumption) | assumption)
                                have q252 : x6_1 < (t232.length : Int) := of_decide_eq_true (by first | (with_reducible assumption) | assumption)
                                obtain ⟨ad252, A252_1, c252_1, A252_2, c252_2, e252, hx252_0, hx252_1, hx252_2, hx252_3, hx252_4, hl252_1, hi252_1, hl252_2, hi252_2⟩ := at_T32 (Kd.S_reads' HO_3.out).2.2 x6_1 p252 q252
                                obtain rfl : ad249 = ad252 := (by injection e252)
                                obtain ⟨ce252, hce252, hMe252, hcc252⟩ := Kd.S_get HO_3.out z32 x6_1 p252 (by first | exact q252 | exact of_decide_eq_true (by first | (with_reducible assumption) | assumption) | (have e_ := (Kd.S_reads' HO_3.out).1; omega))
                                obtain ⟨ve252_1, ve252_2, rfl, ge252_1, ge252_2⟩ := k32_openM hMe252
                                have hv252_1 := hcc252 1 _ rfl
                                rw [add_field _ _ 1 (by omega)] at hv252_1
                                replace hv252_1 := Option.some.inj (hv252_1.symm.trans hx252_1)
                                rw [hv252_1] at ge252_1
                                have HL252_1 := Aside0.mk (show Kd.R Kd.string 9 _ _ _ _ ((rd_T32 t232 x6_1).f1) from ge252_1)
                                clear hv252_1 ge252_1
                                have hv252_2 := hcc252 2 _ rfl
                                rw [add_field _ _ 2 (by omega)] at hv252_2
                                replace hv252_2 := Option.some.inj (hv252_2.symm.trans hx252_2)
                                rw [hv252_2] at ge252_2
                                have HL252_2 := Aside0.mk (show Kd.R Kd.string 9 _ _ _ _ ((rd_T32 t232 x6_1).f2) from ge252_2)
                                clear hv252_2 ge252_2
                                clear hcc252 hce252
                                have HR252_1 := Aside0.mk hi252_1
                                have HC252_1 := Aside0.mk hl252_1
                                clear hi252_1 hl252_1
                                have HR252_2 := Aside0.mk hi252_2
                                have HC252_2 := Aside0.mk hl252_2
                                clear hi252_2 hl252_2
                                replace p252 := eq_true p252
                                replace q252 := eq_true q252
                                have ea_ := Option.some.inj (hx251_1.symm.trans hx252_1)
                                injection ea_ with ea_ en_ ec_
                                subst ea_
                                subst ec_
                                clear en_
                                have ea_ := Option.some.inj (hx251_2.symm.trans hx252_2)
                                injection ea_ with ea_ en_ ec_
                                subst ea_
                                subst ec_
                                clear en_
                                have p253 : 0 ≤ (x8_2 : Int) := of_decide_eq_true (by first | (with_reducible assumption) | assumption)
                                have q253 : x8_2 < (((rd_T32 t232 x6_1).f2).length : Int) := of_decide_eq_true (by first | (with_reducible assumption) | assumption)
                                obtain ⟨ad253, e253, hx253_0⟩ := Kd.at_string (by repeat (first | (with_reducible exact HR252_2.out) | (with_reducible refine Kd.C_alloc ?_ _) | (with_reducible refine Kd.C_drewN ?_ _) | (with_reducible refine Kd.C_drew ?_) | exact HR252_2.out)) x8_2 p253 q253
                                cases e253
                                replace p253 := eq_true p253
                                replace q253 := eq_true q253
                                go_wp2_with (first | (go_at_call 17; (with_reducible refine (laws_unit.calls k2 _ _ t232 (rdOf ByteArray.empty ((rd_T32 t232 x6_1).f2) x8_2) t254 _ ?side1 ?side2 A26.out).mono ?_); (case side1 => repeat (first | exact (Kd.S_reads' HO_3.out).2.2 | (with_reducible refine Kd.C_alloc ?_ _) | (with_reducible refine Kd.C_drewN ?_ _) | (with_reducible refine Kd.C_drew ?_))); (case side2 => exact (Kd.S_reads' HO_3.out).2.1); rintro e w' ⟨rfl, ⟨nd, rfl⟩⟩; have p255 : 0 ≤ (x6_1 : Int) := of_decide_eq_true (by first | (with_reducible assumption) | assumption); have q255 : x6_1 < (t232.length : Int) := of_decide_eq_true (by first | (with_reducible assumption) | assumption); obtain ⟨ad255, A255_1, c255_1, A255_2, c255_2, e255, hx255_0, hx255_1, hx255_2, hx255_3, hx255_4, hl255_1, hi255_1, hl255_2, hi255_2⟩ := at_T32 (Kd.S_reads' HO_3.out).2.2 x6_1 p255 q255; obtain rfl : ad249 = ad255 := (by injection e255); obtain ⟨ce255, hce255, hMe255, hcc255⟩ := Kd.S_get HO_3.out z32 x6_1 p255 (by first | exact q255 | exact of_decide_eq_true (by first | (with_reducible assumption) | assumption) | (have e_ := (Kd.S_reads' HO_3.out).1; omega)); obtain ⟨ve255_1, ve255_2, rfl, ge255_1, ge255_2⟩ := k32_openM hMe255; have hv255_1 := hcc255 1 _ rfl; rw [add_field _ _ 1 (by omega)] at hv255_1; replace hv255_1 := Option.some.inj (hv255_1.symm.trans hx255_1); rw [hv255_1] at ge255_1; have HL255_1 := Aside0.mk (show Kd.R Kd.string 9 _ _ _ _ ((rd_T32 t232 x6_1).f1) from ge255_1); clear hv255_1 ge255_1; have hv255_2 := hcc255 2 _ rfl; rw [add_field _ _ 2 (by omega)] at hv255_2; replace hv255_2 := Option.some.inj (hv255_2.symm.trans hx255_2); rw [hv255_2] at ge255_2; have HL255_2 := Aside0.mk (show Kd.R Kd.string 9 _ _ _ _ ((rd_T32 t232 x6_1).f2) from ge255_2); clear hv255_2 ge255_2; clear hcc255 hce255; have HR255_1 := Aside0.mk hi255_1; have HC255_1 := Aside0.mk hl255_1; clear hi255_1 hl255_1; have HR255_2 := Aside0.mk hi255_2; have HC255_2 := Aside0.mk hl255_2; clear hi255_2 hl255_2; replace p255 := eq_true p255; replace q255 := eq_true q255; have ea_ := Option.some.inj (hx251_1.symm.trans hx255_1); injection ea_ with ea_ en_ ec_; subst ea_; subst ec_; clear en_; have ea_ := Option.some.inj (hx251_2.symm.trans hx255_2); injection ea_ with ea_ en_ ec_; subst ea_; subst ec_; clear en_; have p256 : 0 ≤ (x8_2 : Int) := of_decide_eq_true (by first | (with_reducible assumption) | assumption); have q256 : x8_2 < (((rd_T32 t232 x6_1).f2).length : Int) := of_decide_eq_true (by first | (with_reducible assumption) | assumption); obtain ⟨ad256, e256, hx256_0⟩ := Kd.at_string (by repeat (first | (with_reducible exact HR255_2.out) | (with_reducible refine Kd.C_alloc ?_ _) | (with_reducible refine Kd.C_drewN ?_ _) | (with_reducible refine Kd.C_drew ?_) | exact HR255_2.out)) x8_2 p256 q256; cases e256; replace p256 := eq_true p256; replace q256 := eq_true q256) | (go_at_call 16; (with_reducible refine (laws_has.calls k2 _ _ t238 (rdOf ByteArray.empty ((rd_T32 t232 x6_1).f2) x8_2) t257 _ ?side1 ?side2 A28.out).mono ?_); (case side1 => repeat (first | exact (Kd.R_reads' HO_5.out).2.2 | (with_reducible refine Kd.C_alloc ?_ _) | (with_reducible refine Kd.C_drewN ?_ _) | (with_reducible refine Kd.C_drew ?_))); (case side2 => exact (Kd.R_reads' HO_5.out).2.1); rintro e w' ⟨rfl, ⟨nd, rfl⟩⟩))
                                go_roundg k2
                                case measure => have := HK1.out; have := HK2.out; omega
                                case rel => exact ⟨(t257), (wrap64 (x8_2 + 1)), (by first | rfl | (simp; done) | (simp [*]; done)), (by first | rfl | (simp; done) | (simp [*]; done)), H', ⟨by have := HK1.out; have := HK2.out; omega⟩, ⟨by (with_reducible repeat (first | apply Kd.S_alloc | apply Kd.S_drewN | apply Kd.S_drew)); exact HO_3.out⟩, ⟨by (with_reducible repeat (first | apply Kd.R_alloc | apply Kd.R_drewN | apply Kd.R_drew)); exact HO_4.out⟩, ⟨by (with_reducible repeat (first | apply Kd.R_alloc | apply Kd.R_drewN | apply Kd.R_drew)); exact HO_5.out⟩, ⟨by repeat (first | (with_reducible exact HR249_1.out) | (with_reducible refine Kd.C_alloc ?_ _) | (with_reducible refine Kd.C_drewN ?_ _) | (with_reducible refine Kd.C_drew ?_) | exact HR249_1.out)⟩, ⟨by repeat (first | (with_reducible exact HR249_2.out) | (with_reducible refine Kd.C_alloc ?_ _) | (with_reducible refine Kd.C_drewN ?_ _) | (with_reducible refine Kd.C_drew ?_) | exact HR249_2.out)⟩, ⟨by repeat (first | (with_reducible first | exact HB.out | apply below_alloc | apply pw_below_drewN | apply below_drew1) | exact HB.out)⟩⟩
                            · rw [if_neg c25] at H
                              exact absurd H (by simp)
                        · rw [if_neg c23] at H
                          have c23b0 : decide (x8_2 < (((rd_T32 t232 x6_1).f2).length : Int)) = false := decide_eq_false c23
                          clear c23
                          replace H := Option.bind_eq_some_iff.mp H
                          obtain ⟨t259, A290, H⟩ := H
                          replace H : (if (x7_2 != t259) = true then (some false) else (laws_FnFailing.l0 k2 t232 t233 t238 (wrap64 (x6_1 + 1)))) = some r := H
                          have A29 := Aside0.mk A290
                          clear A290
                          by_cases c30 : (x7_2 != t259) = true
                          · rw [if_pos c30] at H
                            have c30b0 : (x7_2 != t259) = true := c30
                            (try (have c30b1 : decide (x7_2 = t259) = false := by simpa using c30))
                            (try (have c30b2 : (x7_2 == t259) = false := by simpa using c30))
                            (try (have c30b3 : ¬ (x7_2 = t259) := by simpa using c30))
                            clear c30
                            obtain rfl := Option.some.inj H
                            have p251 : 0 ≤ (x6_1 : Int) := of_decide_eq_true (by first | (with_reducible assumption) | assumption)
                            have q251 : x6_1 < (t232.length : Int) := of_decide_eq_true (by first | (with_reducible assumption) | assumption)
                            obtain ⟨ad251, A251_1, c251_1, A251_2, c251_2, e251, hx251_0, hx251_1, hx251_2, hx251_3, hx251_4, hl251_1, hi251_1, hl251_2, hi251_2⟩ := at_T32 (Kd.S_reads' HO_3.out).2.2 x6_1 p251 q251
                            obtain rfl : ad249 = ad251 := (by injection e251)
                            obtain ⟨ce251, hce251, hMe251, hcc251⟩ := Kd.S_get HO_3.out z32 x6_1 p251 (by first | exact q251 | exact of_decide_eq_true (by first | (with_reducible assumption) | assumption) | (have e_ := (Kd.S_reads' HO_3.out).1; omega))
                            obtain ⟨ve251_1, ve251_2, rfl, ge251_1, ge251_2⟩ := k32_openM hMe251
                            have hv251_1 := hcc251 1 _ rfl
                            rw [add_field _ _ 1 (by omega)] at hv251_1
                            replace hv251_1 := Option.some.inj (hv251_1.symm.trans hx251_1)
                            rw [hv251_1] at ge251_1
                            have HL251_1 := Aside0.mk (show Kd.R Kd.string 9 _ _ _ _ ((rd_T32 t232 x6_1).f1) from ge251_1)
                            clear hv251_1 ge251_1
                            have hv251_2 := hcc251 2 _ rfl
                            rw [add_field _ _ 2 (by omega)] at hv251_2
                            replace hv251_2 := Option.some.inj (hv251_2.symm.trans hx251_2)
                            rw [hv251_2] at ge251_2
                            have HL251_2 := Aside0.mk (show Kd.R Kd.string 9 _ _ _ _ ((rd_T32 t232 x6_1).f2) from ge251_2)
                            clear hv251_2 ge251_2
                            clear hcc251 hce251
                            have HR251_1 := Aside0.mk hi251_1
                            have HC251_1 := Aside0.mk hl251_1
                            clear hi251_1 hl251_1
                            have HR251_2 := Aside0.mk hi251_2
                            have HC251_2 := Aside0.mk hl251_2
                            clear hi251_2 hl251_2
                            replace p251 := eq_true p251
                            replace q251 := eq_true q251
                            have p258 : 0 ≤ (x6_1 : Int) := of_decide_eq_true (by first | (with_reducible assumption) | assumption)
                            have q258 : x6_1 < (t232.length : Int) := of_decide_eq_true (by first | (with_reducible assumption) | assumption)
                            obtain ⟨ad258, A258_1, c258_1, A258_2, c258_2, e258, hx258_0, hx258_1, hx258_2, hx258_3, hx258_4, hl258_1, hi258_1, hl258_2, hi258_2⟩ := at_T32 (Kd.S_reads' HO_3.out).2.2 x6_1 p258 q258
                            obtain rfl : ad249 = ad258 := (by injection e258)
                            obtain ⟨ce258, hce258, hMe258, hcc258⟩ := Kd.S_get HO_3.out z32 x6_1 p258 (by first | exact q258 | exact of_decide_eq_true (by first | (with_reducible assumption) | assumption) | (have e_ := (Kd.S_reads' HO_3.out).1; omega))
                            obtain ⟨ve258_1, ve258_2, rfl, ge258_1, ge258_2⟩ := k32_openM hMe258
                            have hv258_1 := hcc258 1 _ rfl
                            rw [add_field _ _ 1 (by omega)] at hv258_1
                            replace hv258_1 := Option.some.inj (hv258_1.symm.trans hx258_1)
                            rw [hv258_1] at ge258_1
                            have HL258_1 := Aside0.mk (show Kd.R Kd.string 9 _ _ _ _ ((rd_T32 t232 x6_1).f1) from ge258_1)
                            clear hv258_1 ge258_1
                            have hv258_2 := hcc258 2 _ rfl
                            rw [add_field _ _ 2 (by omega)] at hv258_2
                            replace hv258_2 := Option.some.inj (hv258_2.symm.trans hx258_2)
                            rw [hv258_2] at ge258_2
                            have HL258_2 := Aside0.mk (show Kd.R Kd.string 9 _ _ _ _ ((rd_T32 t232 x6_1).f2) from ge258_2)
                            clear hv258_2 ge258_2
                            clear hcc258 hce258
                            have HR258_1 := Aside0.mk hi258_1
                            have HC258_1 := Aside0.mk hl258_1
                            clear hi258_1 hl258_1
                            have HR258_2 := Aside0.mk hi258_2
                            have HC258_2 := Aside0.mk hl258_2
                            clear hi258_2 hl258_2
                            replace p258 := eq_true p258
                            replace q258 := eq_true q258
                            have ea_ := Option.some.inj (hx251_1.symm.trans hx258_1)
                            injection ea_ with ea_ en_ ec_
                            subst ea_
                            subst ec_
                            clear en_
                            have ea_ := Option.some.inj (hx251_2.symm.trans hx258_2)
                            injection ea_ with ea_ en_ ec_
                            subst ea_
                            subst ec_
                            clear en_
                            go_wp2_with (first | ((with_reducible refine gate_callee (f := 16) rfl ?_); refine goesL_ (some 94) rfl rfl Try.func16 (by kernel_rfl) rfl #[.slice Ao15 t238.length co15, .string ((rd_T32 t232 x6_1).f0)] rfl (by (try simp only [List.map_toArray, List.map_cons, List.map_nil]); first | done | rfl | (simp only [List.length_drop, List.length_take]; rfl)) ?_; (with_reducible refine (laws_has.calls k2 _ _ t238 ((rd_T32 t232 x6_1).f0) t259 _ ?side1 ?side2 A29.out).mono ?_); (case side1 => repeat (first | exact (Kd.R_reads' HO_5.out).2.2 | (with_reducible refine Kd.C_alloc ?_ _) | (with_reducible refine Kd.C_drewN ?_ _) | (with_reducible refine Kd.C_drew ?_))); (case side2 => exact (Kd.R_reads' HO_5.out).2.1); rintro e w' ⟨rfl, ⟨nd, rfl⟩⟩; refine ⟨_, rfl, ?_⟩))
                            go_ret
                            exact ⟨by first | rfl | (simp [errW_none, errW_some] <;> rfl) | (simp [*, errW_none, errW_some] <;> rfl), by repeat (first | (with_reducible first | exact HB.out | apply below_alloc | apply pw_below_drewN | apply below_drew1) | exact HB.out)⟩
                          · rw [if_neg c30] at H
                            have c30b0 : (x7_2 != t259) = false := by simpa using c30
                            (try (have c30b1 : decide (x7_2 = t259) = true := by simpa using c30))
                            (try (have c30b2 : (x7_2 == t259) = true := by simpa using c30))
                            clear c30
                            have H' := Aside0.mk H
                            clear H
                            have p251 : 0 ≤ (x6_1 : Int) := of_decide_eq_true (by first | (with_reducible assumption) | assumption)
                            have q251 : x6_1 < (t232.length : Int) := of_decide_eq_true (by first | (with_reducible assumption) | assumption)
                            obtain ⟨ad251, A251_1, c251_1, A251_2, c251_2, e251, hx251_0, hx251_1, hx251_2, hx251_3, hx251_4, hl251_1, hi251_1, hl251_2, hi251_2⟩ := at_T32 (Kd.S_reads' HO_3.out).2.2 x6_1 p251 q251
                            obtain rfl : ad249 = ad251 := (by injection e251)
                            obtain ⟨ce251, hce251, hMe251, hcc251⟩ := Kd.S_get HO_3.out z32 x6_1 p251 (by first | exact q251 | exact of_decide_eq_true (by first | (with_reducible assumption) | assumption) | (have e_ := (Kd.S_reads' HO_3.out).1; omega))
                            obtain ⟨ve251_1, ve251_2, rfl, ge251_1, ge251_2⟩ := k32_openM hMe251
                            have hv251_1 := hcc251 1 _ rfl
                            rw [add_field _ _ 1 (by omega)] at hv251_1
                            replace hv251_1 := Option.some.inj (hv251_1.symm.trans hx251_1)
                            rw [hv251_1] at ge251_1
                            have HL251_1 := Aside0.mk (show Kd.R Kd.string 9 _ _ _ _ ((rd_T32 t232 x6_1).f1) from ge251_1)
                            clear hv251_1 ge251_1
                            have hv251_2 := hcc251 2 _ rfl
                            rw [add_field _ _ 2 (by omega)] at hv251_2
                            replace hv251_2 := Option.some.inj (hv251_2.symm.trans hx251_2)
                            rw [hv251_2] at ge251_2
                            have HL251_2 := Aside0.mk (show Kd.R Kd.string 9 _ _ _ _ ((rd_T32 t232 x6_1).f2) from ge251_2)
                            clear hv251_2 ge251_2
                            clear hcc251 hce251
                            have HR251_1 := Aside0.mk hi251_1
                            have HC251_1 := Aside0.mk hl251_1
                            clear hi251_1 hl251_1
                            have HR251_2 := Aside0.mk hi251_2
                            have HC251_2 := Aside0.mk hl251_2
                            clear hi251_2 hl251_2
                            replace p251 := eq_true p251
                            replace q251 := eq_true q251
                            have p258 : 0 ≤ (x6_1 : Int) := of_decide_eq_true (by first | (with_reducible assumption) | assumption)
                            have q258 : x6_1 < (t232.length : Int) := of_decide_eq_true (by first | (with_reducible assumption) | assumption)
                            obtain ⟨ad258, A258_1, c258_1, A258_2, c258_2, e258, hx258_0, hx258_1, hx258_2, hx258_3, hx258_4, hl258_1, hi258_1, hl258_2, hi258_2⟩ := at_T32 (Kd.S_reads' HO_3.out).2.2 x6_1 p258 q258
                            obtain rfl : ad249 = ad258 := (by injection e258)
                            obtain ⟨ce258, hce258, hMe258, hcc258⟩ := Kd.S_get HO_3.out z32 x6_1 p258 (by first | exact q258 | exact of_decide_eq_true (by first | (with_reducible assumption) | assumption) | (have e_ := (Kd.S_reads' HO_3.out).1; omega))
                            obtain ⟨ve258_1, ve258_2, rfl, ge258_1, ge258_2⟩ := k32_openM hMe258
                            have hv258_1 := hcc258 1 _ rfl
                            rw [add_field _ _ 1 (by omega)] at hv258_1
                            replace hv258_1 := Option.some.inj (hv258_1.symm.trans hx258_1)
                            rw [hv258_1] at ge258_1
                            have HL258_1 := Aside0.mk (show Kd.R Kd.string 9 _ _ _ _ ((rd_T32 t232 x6_1).f1) from ge258_1)
                            clear hv258_1 ge258_1
                            have hv258_2 := hcc258 2 _ rfl
                            rw [add_field _ _ 2 (by omega)] at hv258_2
                            replace hv258_2 := Option.some.inj (hv258_2.symm.trans hx258_2)
                            rw [hv258_2] at ge258_2
                            have HL258_2 := Aside0.mk (show Kd.R Kd.string 9 _ _ _ _ ((rd_T32 t232 x6_1).f2) from ge258_2)
                            clear hv258_2 ge258_2
                            clear hcc258 hce258
                            have HR258_1 := Aside0.mk hi258_1
                            have HC258_1 := Aside0.mk hl258_1
                            clear hi258_1 hl258_1
                            have HR258_2 := Aside0.mk hi258_2
                            have HC258_2 := Aside0.mk hl258_2
                            clear hi258_2 hl258_2
                            replace p258 := eq_true p258
                            replace q258 := eq_true q258
                            have ea_ := Option.some.inj (hx251_1.symm.trans hx258_1)
                            injection ea_ with ea_ en_ ec_
                            subst ea_
                            subst ec_
                            clear en_
                            have ea_ := Option.some.inj (hx251_2.symm.trans hx258_2)
                            injection ea_ with ea_ en_ ec_
                            subst ea_
                            subst ec_
                            clear en_
                            go_wp2_with (first | ((with_reducible refine gate_callee (f := 16) rfl ?_); refine goesL_ (some 94) rfl rfl Try.func16 (by kernel_rfl) rfl #[.slice Ao15 t238.length co15, .string ((rd_T32 t232 x6_1).f0)] rfl (by (try simp only [List.map_toArray, List.map_cons, List.map_nil]); first | done | rfl | (simp only [List.length_drop, List.length_take]; rfl)) ?_; (with_reducible refine (laws_has.calls k2 _ _ t238 ((rd_T32 t232 x6_1).f0) t259 _ ?side1 ?side2 A29.out).mono ?_); (case side1 => repeat (first | exact (Kd.R_reads' HO_5.out).2.2 | (with_reducible refine Kd.C_alloc ?_ _) | (with_reducible refine Kd.C_drewN ?_ _) | (with_reducible refine Kd.C_drew ?_))); (case side2 => exact (Kd.R_reads' HO_5.out).2.1); rintro e w' ⟨rfl, ⟨nd, rfl⟩⟩; refine ⟨_, rfl, ?_⟩))
                            go_roundg k2
                            case measure => have := HK1.out; have := HK2.out; omega
                            case rel => exact ⟨(wrap64 (x6_1 + 1)), (by first | rfl | (simp; done) | (simp [*]; done)), H', ⟨by have := HK1.out; have := HK2.out; omega⟩, ⟨by (with_reducible repeat (first | apply Kd.S_alloc | apply Kd.S_drewN | apply Kd.S_drew)); exact HO_3.out⟩, ⟨by (with_reducible repeat (first | apply Kd.R_alloc | apply Kd.R_drewN | apply Kd.R_drew)); exact HO_4.out⟩, ⟨by (with_reducible repeat (first | apply Kd.R_alloc | apply Kd.R_drewN | apply Kd.R_drew)); exact HO_5.out⟩, ⟨by repeat (first | (with_reducible first | exact HB.out | apply below_alloc | apply pw_below_drewN | apply below_drew1) | exact HB.out)⟩⟩
                      · rw [if_neg c22] at H
                        exact absurd H (by simp)
                    · rw [if_neg c21] at H
                      exact absurd H (by simp)
              · rw [if_neg c19] at H
                exact absurd H (by simp)
            · rw [if_neg c18] at H
              have c18b0 : decide (x6_1 < (t232.length : Int)) = false := decide_eq_false c18
              clear c18
              obtain ⟨ji31, hji31⟩ : ∃ j_ : Int, (wrap64 ((t233.length : Int) / 2)) = j_ := ⟨_, rfl⟩
              replace H : (if 0 ≤ (ji31) then (if (ji31) ≤ (t233.length : Int) then ((impl_Failing.f t232 (t233.take ((ji31) : Int).toNat)).bind fun t264 => (laws_FnFailing.l2 k1 t238 t264 0)) else (none)) else (none)) = some r := by first | (rw [hji31] at H; exact H) | (simp only [hji31] at H ⊢; exact H)
              have hji31w : (IntKind.i64.wrap ((t233.length : Int) / 2)) = ji31 := (i64_w _).trans hji31
              by_cases c32 : 0 ≤ (ji31)
              · rw [if_pos c32] at H
                have c32b0 := eq_true c32
                have c32b1 : decide (0 ≤ (ji31)) = true := decide_eq_true c32
                clear c32
                by_cases c33 : (ji31) ≤ (t233.length : Int)
                · rw [if_pos c33] at H
                  have c33b0 := eq_true c33
                  have c33b1 : decide ((ji31) ≤ (t233.length : Int)) = true := decide_eq_true c33
                  clear c33
                  obtain ⟨y260, hy260⟩ : ∃ y_ : List ByteArray, y_ = (t233.take ((ji31) : Int).toNat) := ⟨_, rfl⟩
                  replace H : ((impl_Failing.f t232 y260).bind fun t264 => (laws_FnFailing.l2 k1 t238 t264 0)) = some r := by first | (rw [hy260]; with_reducible exact H) | (have H2_ := (Option.bind_some _ _).symm.trans H; rw [hy260]; with_reducible exact H2_) | (have H2_ := (Option.bind_some _ _).symm.trans H; with_reducible exact H2_) | with_reducible exact H | (rw [hy260]; exact H) | exact H
                  have Ny260 := Aside0.mk hy260
                  clear hy260
                  replace H := Option.bind_eq_some_iff.mp H
                  obtain ⟨t264, A340, H⟩ := H
                  replace H : (laws_FnFailing.l2 k1 t238 t264 0) = some r := H
                  have A34 := Aside0.mk A340
                  clear A340
                  have H' := Aside0.mk H
                  clear H
                  have q35 : ((ji31) : Int) ≤ ((t233.length : Int) : Int) := of_decide_eq_true (by first | (with_reducible assumption) | assumption)
                  obtain ⟨i035, hi035, _, hsz35, _⟩ := info_parts info9
                  have hroom35 : t233.length ≤ co12 := (Kd.R_reads' HO_4.out).2.1
                  have hC35 : Kd.C Kd.string _ Ao12 t233.length t233 := (Kd.R_reads' HO_4.out).2.2
                  have hcut35 := cut_to (P := Try.prog) 25 9 .i64 Try.underlying25 hi035 Ao12 t233.length co12 (ji31) (of_decide_eq_true (by first | (with_reducible assumption) | assumption)) q35 hroom35
                  have hr35 := Kd.C_take (m := ((ji31) : Int).toNat) hC35 (by omega)
                  have hy35 : y260.length = ((ji31) : Int).toNat := (by rw [Ny260.out, List.length_take]; omega)
                  rw [← Ny260.out] at hr35
                  rw [← hy35] at hcut35
                  have HR263 := Aside0.mk hr35
                  have HC263 := Aside0.mk (show y260.length ≤ co12 from by omega)
                  clear hr35 hC35 hroom35 hi035 hsz35
                  have KY35 := Aside0.mk hy35
                  clear hy35
                  have KL35 := Aside0.mk (show ((ji31) : Int).toNat ≤ t233.length from by omega)
                  replace q35 := eq_true q35
                  go_wp2_with (first | ((with_reducible refine gate_callee (f := 12) rfl ?_); refine goesL_ (some 102) rfl rfl Try.func12 (by kernel_rfl) rfl #[.slice Ao11 t232.length co11, .slice Ao12 y260.length co12] rfl (by (try simp only [List.map_toArray, List.map_cons, List.map_nil]); first | done | rfl | (simp only [List.length_drop, List.length_take]; rfl)) ?_; (with_reducible refine (impl_Failing.calls _ _ t232 _ _ y260 t264 _ ?side1 ?side2 ?side3 ?side4 A34.out).mono ?_); (case side1 => repeat (first | exact (Kd.S_reads' HO_3.out).2.2 | (with_reducible refine Kd.C_alloc ?_ _) | (with_reducible refine Kd.C_drewN ?_ _) | (with_reducible refine Kd.C_drew ?_))); (case side2 => exact (Kd.S_reads' HO_3.out).2.1); (case side3 => repeat (first | exact (by repeat (first | (with_reducible exact HR263.out) | (with_reducible refine Kd.C_alloc ?_ _) | (with_reducible refine Kd.C_drewN ?_ _) | (with_reducible refine Kd.C_drew ?_) | exact HR263.out)) | (with_reducible refine Kd.C_alloc ?_ _) | (with_reducible refine Kd.C_drewN ?_ _) | (with_reducible refine Kd.C_drew ?_))); (case side4 => exact HC263.out); rintro e w36 ⟨v265, rfl, ho0, hb⟩; refine ⟨_, rfl, ?_⟩; have n0_ := Aside0.mk (Kd.S_elder' (by (with_reducible repeat (first | apply Kd.S_alloc | apply Kd.S_drewN | apply Kd.S_drew)); exact HO_3.out) (Kd.R_base ho0) hb); have n1_ := Aside0.mk (Kd.R_elder' (by (with_reducible repeat (first | apply Kd.R_alloc | apply Kd.R_drewN | apply Kd.R_drew)); exact HO_4.out) (Kd.R_base ho0) hb); have n2_ := Aside0.mk (Kd.R_elder' (by (with_reducible repeat (first | apply Kd.R_alloc | apply Kd.R_drewN | apply Kd.R_drew)); exact HO_5.out) (Kd.R_base ho0) hb); have n3_ := Aside0.mk (Kd.R_lower (Kd.R_new' (Kd.R_new' ho0 (Kd.R_lt (by (with_reducible repeat (first | apply Kd.R_alloc | apply Kd.R_drewN | apply Kd.R_drew)); exact HO_4.out))) (Kd.R_lt (by (with_reducible repeat (first | apply Kd.R_alloc | apply Kd.R_drewN | apply Kd.R_drew)); exact HO_5.out))) (below_size (by repeat (first | (with_reducible first | exact HB.out | apply below_alloc | apply pw_below_drewN | apply below_drew1) | exact HB.out)))); have n4_ := Aside0.mk (Kd.C_below (by repeat (first | (with_reducible exact HR263.out) | (with_reducible refine Kd.C_alloc ?_ _) | (with_reducible refine Kd.C_drewN ?_ _) | (with_reducible refine Kd.C_drew ?_) | exact HR263.out)) hb); have n5_ := Aside0.mk (below_step (by repeat (first | (with_reducible first | exact HB.out | apply below_alloc | apply pw_below_drewN | apply below_drew1) | exact HB.out)) hb); clear HO_3; clear HO_4; clear HO_5; clear HR263; clear HB; have HO_3 := n0_; have HO_4 := n1_; have HO_5 := n2_; have HO266 := n3_; have HR263 := n4_; have HB := n5_; clear n0_ n1_ n2_ n3_ n4_ n5_; (try clear hb); (try clear hb2); (try clear hk); (try clear hi); (try clear ho0)))
                  go_loopg [10] k1 (fun kq v10 w' => ∃ (x10_2 : Int), v10 = .int .i64 x10_2 ∧ Aside0 (laws_FnFailing.l2 kq t238 t264 x10_2 = some r) ∧ Aside0 (kq ≤ k1) ∧ Aside0 (Kd.R Kd.string 9 w' w.heap.size (fun k_ => some k_ ≠ (v265 : Value).ownBlock) (.slice Ao15 t238.length co15) t238) ∧ Aside0 (Kd.R Kd.string 9 w' w.heap.size (fun k_ => some k_ ≠ ((.slice Ao15 t238.length co15) : Value).ownBlock) v265 t264) ∧ Aside0 (Kd.C Kd.string w' Ao12 y260.length y260) ∧ Aside0 (Below w.heap.size w w'))
                  case atStart => exact ⟨(0), (by first | rfl | (simp; done) | (simp [*]; done)), H', ⟨Nat.le_refl _⟩, ⟨by (with_reducible repeat (first | apply Kd.R_alloc | apply Kd.R_drewN | apply Kd.R_drew)); exact Kd.R_mono HO_5.out (fun _ hk => hk.2)⟩, ⟨by (with_reducible repeat (first | apply Kd.R_alloc | apply Kd.R_drewN | apply Kd.R_drew)); exact Kd.R_mono HO266.out (fun _ hk => hk.2)⟩, ⟨by repeat (first | (with_reducible exact HR263.out) | (with_reducible refine Kd.C_alloc ?_ _) | (with_reducible refine Kd.C_drewN ?_ _) | (with_reducible refine Kd.C_drew ?_) | exact HR263.out)⟩, ⟨by repeat (first | (with_reducible first | exact HB.out | apply below_alloc | apply pw_below_drewN | apply below_drew1) | exact HB.out)⟩⟩
                  case round =>
                    clear H'
                    try clear c1
                    try clear c2
                    try clear p2
                    try clear q2
                    try clear hx2
                    try clear c3
                    try clear q3
                    try clear p6
                    try clear c7
                    try clear c9
                    try clear c9b0
                    try clear c9b1
                    try clear c9b2
                    try clear c10
                    try clear c11
                    try clear c12
                    try clear c13
                    try clear c15
                    try clear c16
                    try clear c18
                    try clear c18b0
                    try clear c19
                    try clear c19b0
                    try clear c21
                    try clear c21b0
                    try clear c22
                    try clear c22b0
                    try clear c23
                    try clear c23b0
                    try clear c24
                    try clear p24
                    try clear q24
                    try clear hx24
                    try clear c25
                    try clear c25b0
                    try clear p25
                    try clear q25
                    try clear hx25
                    try clear c27
                    try clear c27b0
                    try clear c30
                    try clear c30b0
                    try clear c30b1
                    try clear c30b2
                    try clear c32
                    try clear c32b0
                    try clear c32b1
                    try clear c33
                    try clear c33b0
                    try clear c33b1
                    try clear q35
                    try clear hx249_0
                    try clear hx249_1
                    try clear hx249_2
                    try clear hx249_3
                    try clear hx249_4
                    try clear hx251_0
                    try clear hx251_1
                    try clear hx251_2
                    try clear hx251_3
                    try clear hx251_4
                    try clear hx252_0
                    try clear hx252_1
                    try clear hx252_2
                    try clear hx252_3
                    try clear hx252_4
                    try clear hx253_0
                    try clear hx255_0
                    try clear hx255_1
                    try clear hx255_2
                    try clear hx255_3
                    try clear hx255_4
                    try clear hx256_0
                    try clear hx258_0
                    try clear hx258_1
                    try clear hx258_2
                    try clear hx258_3
                    try clear hx258_4
                    try clear p2
                    try clear p249
                    try clear p251
                    try clear p252
                    try clear p253
                    try clear p255
                    try clear p256
                    try clear p258
                    try clear q2
                    try clear q249
                    try clear q251
                    try clear q252
                    try clear q253
                    try clear q255
                    try clear q256
                    try clear q258
                    try clear q35
                    obtain ⟨x10_2, rfl, HA, HK2, HO_5, HO_9, HR263, HB⟩ := hrel
                    cases gk with
                    | zero => exact absurd HA.out (by simp [laws_FnFailing.l2])
                    | succ k2 =>
                      have H := HA.out
                      clear HA
                      simp only [laws_FnFailing.l2] at H
                      by_cases c37 : x10_2 < (t264.length : Int)
                      · rw [if_pos c37] at H
                        have c37b0 : decide (x10_2 < (t264.length : Int)) = true := decide_eq_true c37
                        clear c37
                        by_cases c38 : 0 ≤ x10_2
                        · rw [if_pos c38] at H
                          have c38b0 : decide (0 ≤ x10_2) = true := decide_eq_true c38
                          clear c38
                          replace H := Option.bind_eq_some_iff.mp H
                          obtain ⟨t268, A390, H⟩ := H
                          replace H : (if t268 = true then (laws_FnFailing.l2 k2 t238 t264 (wrap64 (x10_2 + 1))) else (some false)) = some r := H
                          have A39 := Aside0.mk A390
                          clear A390
                          by_cases c40 : t268 = true
                          · subst c40
                            have H1 : (laws_FnFailing.l2 k2 t238 t264 (wrap64 (x10_2 + 1))) = some r := by rw [if_pos rfl] at H; exact H
                            clear H
                            have H := H1
                            clear H1
                            have H' := Aside0.mk H
                            clear H
                            obtain ⟨Ao41, co41, eo41⟩ := Kd.R_slice HO_9.out
                            subst eo41
                            have p267 : 0 ≤ (x10_2 : Int) := of_decide_eq_true (by first | (with_reducible assumption) | assumption)
                            have q267 : x10_2 < (t264.length : Int) := of_decide_eq_true (by first | (with_reducible assumption) | assumption)
                            obtain ⟨ad267, e267, hx267_0⟩ := Kd.at_string (Kd.R_reads' HO_9.out).2.2 x10_2 p267 q267
                            cases e267
                            replace p267 := eq_true p267
                            replace q267 := eq_true q267
                            go_wp2_with (first | ((with_reducible refine gate_callee (f := 16) rfl ?_); refine goesL_ (some 114) rfl rfl Try.func16 (by kernel_rfl) rfl #[.slice Ao15 t238.length co15, .string (rdOf ByteArray.empty t264 x10_2)] rfl (by (try simp only [List.map_toArray, List.map_cons, List.map_nil]); first | done | rfl | (simp only [List.length_drop, List.length_take]; rfl)) ?_; (with_reducible refine (laws_has.calls k2 _ _ t238 (rdOf ByteArray.empty t264 x10_2) true _ ?side1 ?side2 A39.out).mono ?_); (case side1 => repeat (first | exact (Kd.R_reads' HO_5.out).2.2 | (with_reducible refine Kd.C_alloc ?_ _) | (with_reducible refine Kd.C_drewN ?_ _) | (with_reducible refine Kd.C_drew ?_))); (case side2 => exact (Kd.R_reads' HO_5.out).2.1); rintro e w' ⟨rfl, ⟨nd, rfl⟩⟩; refine ⟨_, rfl, ?_⟩))
                            go_roundg k2
                            case measure => have := HK1.out; have := HK2.out; omega
                            case rel => exact ⟨(wrap64 (x10_2 + 1)), (by first | rfl | (simp; done) | (simp [*]; done)), H', ⟨by have := HK1.out; have := HK2.out; omega⟩, ⟨by (with_reducible repeat (first | apply Kd.R_alloc | apply Kd.R_drewN | apply Kd.R_drew)); exact HO_5.out⟩, ⟨by (with_reducible repeat (first | apply Kd.R_alloc | apply Kd.R_drewN | apply Kd.R_drew)); exact HO_9.out⟩, ⟨by repeat (first | (with_reducible exact HR263.out) | (with_reducible refine Kd.C_alloc ?_ _) | (with_reducible refine Kd.C_drewN ?_ _) | (with_reducible refine Kd.C_drew ?_) | exact HR263.out)⟩, ⟨by repeat (first | (with_reducible first | exact HB.out | apply below_alloc | apply pw_below_drewN | apply below_drew1) | exact HB.out)⟩⟩
                          · replace c40 := Bool.eq_false_iff.mpr c40
                            subst c40
                            have H1 : (some false) = some r := by rw [if_neg (show ¬ (false = true) by decide)] at H; exact H
                            clear H
                            have H := H1
                            clear H1
                            obtain rfl := Option.some.inj H
                            obtain ⟨Ao42, co42, eo42⟩ := Kd.R_slice HO_9.out
                            subst eo42
                            have p267 : 0 ≤ (x10_2 : Int) := of_decide_eq_true (by first | (with_reducible assumption) | assumption)
                            have q267 : x10_2 < (t264.length : Int) := of_decide_eq_true (by first | (with_reducible assumption) | assumption)
                            obtain ⟨ad267, e267, hx267_0⟩ := Kd.at_string (Kd.R_reads' HO_9.out).2.2 x10_2 p267 q267
                            cases e267
                            replace p267 := eq_true p267
                            replace q267 := eq_true q267
                            go_wp2_with (first | ((with_reducible refine gate_callee (f := 16) rfl ?_); refine goesL_ (some 114) rfl rfl Try.func16 (by kernel_rfl) rfl #[.slice Ao15 t238.length co15, .string (rdOf ByteArray.empty t264 x10_2)] rfl (by (try simp only [List.map_toArray, List.map_cons, List.map_nil]); first | done | rfl | (simp only [List.length_drop, List.length_take]; rfl)) ?_; (with_reducible refine (laws_has.calls k2 _ _ t238 (rdOf ByteArray.empty t264 x10_2) false _ ?side1 ?side2 A39.out).mono ?_); (case side1 => repeat (first | exact (Kd.R_reads' HO_5.out).2.2 | (with_reducible refine Kd.C_alloc ?_ _) | (with_reducible refine Kd.C_drewN ?_ _) | (with_reducible refine Kd.C_drew ?_))); (case side2 => exact (Kd.R_reads' HO_5.out).2.1); rintro e w' ⟨rfl, ⟨nd, rfl⟩⟩; refine ⟨_, rfl, ?_⟩))
                            go_ret
                            exact ⟨by first | rfl | (simp [errW_none, errW_some] <;> rfl) | (simp only [← hji31]; first | rfl | (simp [errW_none, errW_some] <;> rfl)) | (simp [*, errW_none, errW_some] <;> rfl), by repeat (first | (with_reducible first | exact HB.out | apply below_alloc | apply pw_below_drewN | apply below_drew1) | exact HB.out)⟩
                        · rw [if_neg c38] at H
                          exact absurd H (by simp)
                      · rw [if_neg c37] at H
                        have c37b0 : decide (x10_2 < (t264.length : Int)) = false := decide_eq_false c37
                        clear c37
                        obtain ⟨y269, hy269⟩ : ∃ y_ : List (S32), y_ = (([] : List (S32))) := ⟨_, rfl⟩
                        replace H : ((impl_UnitsOk.f y269).bind fun t272 => (some t272)) = some r := by first | (rw [hy269]; with_reducible exact H) | (have H2_ := (Option.bind_some _ _).symm.trans H; rw [hy269]; with_reducible exact H2_) | (have H2_ := (Option.bind_some _ _).symm.trans H; with_reducible exact H2_) | with_reducible exact H | (rw [hy269]; exact H) | exact H
                        have Ny269 := Aside0.mk hy269
                        clear hy269
                        replace H := Option.bind_eq_some_iff.mp H
                        obtain ⟨t272, A430, H⟩ := H
                        replace H : (some t272) = some r := H
                        have A43 := Aside0.mk A430
                        clear A430
                        obtain rfl := Option.some.inj H
                        obtain ⟨Ao44, co44, eo44⟩ := Kd.R_slice HO_9.out
                        subst eo44
                        go_wp2_with (first | ((with_reducible refine gate_dst (N := 116) rfl ?_); (try (refine gate_guard (by rfl) ?_; dsimp only)); refine Kd.S_lit k32 _ 32 ?hg (N := 116) ?hd (xs := ([] : List (S32))) (inner := []) (ok := fun _ => True) (okp := fun _ => True) ?hr ?hp (fun _ hk => hk) trivial (Below.refl _ _) (Nat.le_refl _) (by simp) ?_; (case hd => rfl); (case hg => rfl); (case hr => first | (go_simp; done) | (go_simp; rfl)); (case hp => exact (Reps.none _ _)); intro v270 w45 ho46 hb hg_ hnew_; clear hg_ hnew_; (first | rw [← Ny269.out] at ho46 | (simp only [Int.reduceToNat] at ho46; rw [← Ny269.out] at ho46)); have n0_ := Aside0.mk (Kd.R_below (by (with_reducible repeat (first | apply Kd.R_alloc | apply Kd.R_drewN | apply Kd.R_drew)); exact HO_5.out) hb); have n1_ := Aside0.mk (Kd.R_below (by (with_reducible repeat (first | apply Kd.R_alloc | apply Kd.R_drewN | apply Kd.R_drew)); exact HO_9.out) hb); have n2_ := Aside0.mk (Kd.S_lower (Kd.S_new' (Kd.S_new' ho46 (Kd.R_lt (by (with_reducible repeat (first | apply Kd.R_alloc | apply Kd.R_drewN | apply Kd.R_drew)); exact HO_5.out))) (Kd.R_lt (by (with_reducible repeat (first | apply Kd.R_alloc | apply Kd.R_drewN | apply Kd.R_drew)); exact HO_9.out))) (below_size (by repeat (first | (with_reducible first | exact HB.out | apply below_alloc | apply pw_below_drewN | apply below_drew1) | exact HB.out)))); have n3_ := Aside0.mk (Kd.C_below (by repeat (first | (with_reducible exact HR263.out) | (with_reducible refine Kd.C_alloc ?_ _) | (with_reducible refine Kd.C_drewN ?_ _) | (with_reducible refine Kd.C_drew ?_) | exact HR263.out)) hb); have n4_ := Aside0.mk (below_step (by repeat (first | (with_reducible first | exact HB.out | apply below_alloc | apply pw_below_drewN | apply below_drew1) | exact HB.out)) hb); clear HO_5; clear HO_9; clear HR263; clear HB; have HO_5 := n0_; have HO_9 := n1_; have HO271 := n2_; have HR263 := n3_; have HB := n4_; clear n0_ n1_ n2_ n3_ n4_; clear hb ho46; obtain ⟨Ao47, co47, eo47⟩ := Kd.S_slice HO271.out; subst eo47) | ((with_reducible refine gate_callee (f := 14) rfl ?_); refine goesL_ (some 117) rfl rfl Try.func14 (by kernel_rfl) rfl #[.slice Ao47 y269.length co47] rfl (by (try simp only [List.map_toArray, List.map_cons, List.map_nil]); first | done | rfl | (simp only [List.length_drop, List.length_take]; rfl)) ?_; (with_reducible refine (impl_UnitsOk.calls _ _ y269 t272 _ ?side1 ?side2 A43.out).mono ?_); (case side1 => repeat (first | exact (Kd.S_reads' HO271.out).2.2 | (with_reducible refine Kd.C_alloc ?_ _) | (with_reducible refine Kd.C_drewN ?_ _) | (with_reducible refine Kd.C_drew ?_))); (case side2 => exact (Kd.S_reads' HO271.out).2.1); rintro e w48 ⟨rfl, hb⟩; refine ⟨_, rfl, ?_⟩; have n0_ := Aside0.mk (Kd.R_below (by (with_reducible repeat (first | apply Kd.R_alloc | apply Kd.R_drewN | apply Kd.R_drew)); exact HO_5.out) hb); have n1_ := Aside0.mk (Kd.R_below (by (with_reducible repeat (first | apply Kd.R_alloc | apply Kd.R_drewN | apply Kd.R_drew)); exact HO_9.out) hb); have n2_ := Aside0.mk (Kd.S_below (by (with_reducible repeat (first | apply Kd.S_alloc | apply Kd.S_drewN | apply Kd.S_drew)); exact HO271.out) hb); have n3_ := Aside0.mk (Kd.C_below (by repeat (first | (with_reducible exact HR263.out) | (with_reducible refine Kd.C_alloc ?_ _) | (with_reducible refine Kd.C_drewN ?_ _) | (with_reducible refine Kd.C_drew ?_) | exact HR263.out)) hb); have n4_ := Aside0.mk (below_step (by repeat (first | (with_reducible first | exact HB.out | apply below_alloc | apply pw_below_drewN | apply below_drew1) | exact HB.out)) hb); clear HO_5; clear HO_9; clear HO271; clear HR263; clear HB; have HO_5 := n0_; have HO_9 := n1_; have HO271 := n2_; have HR263 := n3_; have HB := n4_; clear n0_ n1_ n2_ n3_ n4_; (try clear hb); (try clear hb2); (try clear hk); (try clear hi)))
                        go_ret
                        exact ⟨by first | rfl | (simp [errW_none, errW_some] <;> rfl) | (simp only [← hji31]; first | rfl | (simp [errW_none, errW_some] <;> rfl)) | (simp [*, errW_none, errW_some] <;> rfl), by repeat (first | (with_reducible first | exact HB.out | apply below_alloc | apply pw_below_drewN | apply below_drew1) | exact HB.out)⟩
                · rw [if_neg c33] at H
                  exact absurd H (by simp)
              · rw [if_neg c32] at H
                exact absurd H (by simp)
      · rw [if_neg c9] at H
        have c9b0 : ((t238.length : Int) == (t246.length : Int)) = false := beq_eq_false_iff_ne.mpr c9
        have c9b1 : ((t238.length : Int) != (t246.length : Int)) = true := bne_iff_ne.mpr c9
        have c9b2 : (t238.length == t246.length) = false := by first | simpa using c9 | (simp at c9 ⊢; omega)
        obtain rfl := Option.some.inj H
        go_enter Try.func3, Try.ntmps3
        go_wp2_with (first | ((with_reducible refine gate_callee (f := 10) rfl ?_); refine goesL_ (some 12) rfl rfl Try.func10 (by kernel_rfl) rfl #[.slice A0 l0.length c0] rfl (by (try simp only [List.map_toArray, List.map_cons, List.map_nil]); first | done | rfl | (simp only [List.length_drop, List.length_take]; rfl)) ?_; (with_reducible refine (laws_big.calls _ _ l0 false _ ?side1 ?side2 A2.out).mono ?_); (case side1 => repeat (first | exact HR0.out | (with_reducible refine Kd.C_alloc ?_ _) | (with_reducible refine Kd.C_drewN ?_ _) | (with_reducible refine Kd.C_drew ?_))); (case side2 => exact HC0.out); rintro e w' ⟨rfl, ⟨nd, rfl⟩⟩; refine ⟨_, rfl, ?_⟩) | ((with_reducible refine gate_callee (f := 11) rfl ?_); refine goesL_ (some 15) rfl rfl Try.func11 (by kernel_rfl) rfl #[.slice A0 l0.length c0] rfl (by (try simp only [List.map_toArray, List.map_cons, List.map_nil]); first | done | rfl | (simp only [List.length_drop, List.length_take]; rfl)) ?_; (with_reducible refine (spec_DrawFailing.calls k _ _ l0 t232 t233 _ ?side1 ?side2 A4.out).mono ?_); (case side1 => repeat (first | exact HR0.out | (with_reducible refine Kd.C_alloc ?_ _) | (with_reducible refine Kd.C_drewN ?_ _) | (with_reducible refine Kd.C_drew ?_))); (case side2 => exact HC0.out); rintro e w49 ⟨v234, v236, rfl, ho0, ho1, hb⟩; refine ⟨_, rfl, ?_⟩; have n0_ := Aside0.mk (Kd.S_lower ho0 (below_size (by repeat (first | (with_reducible first | exact HB.out | apply below_alloc | apply pw_below_drewN | apply below_drew1) | exact HB.out)))); have n1_ := Aside0.mk (Kd.R_lower ho1 (below_size (by repeat (first | (with_reducible first | exact HB.out | apply below_alloc | apply pw_below_drewN | apply below_drew1) | exact HB.out)))); have n2_ := Aside0.mk (below_step (by repeat (first | (with_reducible first | exact HB.out | apply below_alloc | apply pw_below_drewN | apply below_drew1) | exact HB.out)) hb); clear HB; have HO235 := n0_; have HO237 := n1_; have HB := n2_; clear n0_ n1_ n2_; (try clear hb); (try clear hb2); (try clear hk); (try clear hi); (try clear ho0); (try clear ho1); obtain ⟨Ao50, co50, eo50⟩ := Kd.S_slice HO235.out; subst eo50; obtain ⟨Ao51, co51, eo51⟩ := Kd.R_slice HO237.out; subst eo51) | ((with_reducible refine gate_callee (f := 12) rfl ?_); refine goesL_ (some 20) rfl rfl Try.func12 (by kernel_rfl) rfl #[.slice Ao50 t232.length co50, .slice Ao51 t233.length co51] rfl (by (try simp only [List.map_toArray, List.map_cons, List.map_nil]); first | done | rfl | (simp only [List.length_drop, List.length_take]; rfl)) ?_; (with_reducible refine (impl_Failing.calls _ _ t232 _ _ t233 t238 _ ?side1 ?side2 ?side3 ?side4 A5.out).mono ?_); (case side1 => repeat (first | exact (Kd.S_reads' HO235.out).2.2 | (with_reducible refine Kd.C_alloc ?_ _) | (with_reducible refine Kd.C_drewN ?_ _) | (with_reducible refine Kd.C_drew ?_))); (case side2 => exact (Kd.S_reads' HO235.out).2.1); (case side3 => repeat (first | exact (Kd.R_reads' HO237.out).2.2 | (with_reducible refine Kd.C_alloc ?_ _) | (with_reducible refine Kd.C_drewN ?_ _) | (with_reducible refine Kd.C_drew ?_))); (case side4 => exact (Kd.R_reads' HO237.out).2.1); rintro e w52 ⟨v239, rfl, ho0, hb⟩; refine ⟨_, rfl, ?_⟩; have n0_ := Aside0.mk (Kd.S_elder' (by (with_reducible repeat (first | apply Kd.S_alloc | apply Kd.S_drewN | apply Kd.S_drew)); exact HO235.out) (Kd.R_base ho0) hb); have n1_ := Aside0.mk (Kd.R_elder' (by (with_reducible repeat (first | apply Kd.R_alloc | apply Kd.R_drewN | apply Kd.R_drew)); exact HO237.out) (Kd.R_base ho0) hb); have n2_ := Aside0.mk (Kd.R_lower (Kd.R_new' ho0 (Kd.R_lt (by (with_reducible repeat (first | apply Kd.R_alloc | apply Kd.R_drewN | apply Kd.R_drew)); exact HO237.out))) (below_size (by repeat (first | (with_reducible first | exact HB.out | apply below_alloc | apply pw_below_drewN | apply below_drew1) | exact HB.out)))); have n3_ := Aside0.mk (below_step (by repeat (first | (with_reducible first | exact HB.out | apply below_alloc | apply pw_below_drewN | apply below_drew1) | exact HB.out)) hb); clear HO235; clear HO237; clear HB; have HO235 := n0_; have HO237 := n1_; have HO240 := n2_; have HB := n3_; clear n0_ n1_ n2_ n3_; (try clear hb); (try clear hb2); (try clear hk); (try clear hi); (try clear ho0)) | ((with_reducible refine gate_callee (f := 13) rfl ?_); refine goesL_ (some 22) rfl rfl Try.func13 (by kernel_rfl) rfl #[.slice Ao50 t232.length co50] rfl (by (try simp only [List.map_toArray, List.map_cons, List.map_nil]); first | done | rfl | (simp only [List.length_drop, List.length_take]; rfl)) ?_; (with_reducible refine (spec_UnitsOk.calls _ _ t232 true _ ?side1 ?side2 A6.out).mono ?_); (case side1 => repeat (first | exact (Kd.S_reads' HO235.out).2.2 | (with_reducible refine Kd.C_alloc ?_ _) | (with_reducible refine Kd.C_drewN ?_ _) | (with_reducible refine Kd.C_drew ?_))); (case side2 => exact (Kd.S_reads' HO235.out).2.1); rintro e w53 ⟨rfl, hb⟩; refine ⟨_, rfl, ?_⟩; have n0_ := Aside0.mk (Kd.S_below (by (with_reducible repeat (first | apply Kd.S_alloc | apply Kd.S_drewN | apply Kd.S_drew)); exact HO235.out) hb); have n1_ := Aside0.mk (Kd.R_below (by (with_reducible repeat (first | apply Kd.R_alloc | apply Kd.R_drewN | apply Kd.R_drew)); exact HO237.out) hb); have n2_ := Aside0.mk (Kd.R_below (by (with_reducible repeat (first | apply Kd.R_alloc | apply Kd.R_drewN | apply Kd.R_drew)); exact HO240.out) hb); have n3_ := Aside0.mk (below_step (by repeat (first | (with_reducible first | exact HB.out | apply below_alloc | apply pw_below_drewN | apply below_drew1) | exact HB.out)) hb); clear HO235; clear HO237; clear HO240; clear HB; have HO235 := n0_; have HO237 := n1_; have HO240 := n2_; have HB := n3_; clear n0_ n1_ n2_ n3_; (try clear hb); (try clear hb2); (try clear hk); (try clear hi); obtain ⟨Ao54, co54, eo54⟩ := Kd.R_slice HO240.out; subst eo54) | ((with_reducible refine gate_callee (f := 15) rfl ?_); refine goesL_ (some 35) rfl rfl Try.func15 (by kernel_rfl) rfl #[.slice Ao50 t232.length co50, .slice Ao51 t233.length co51] rfl (by (try simp only [List.map_toArray, List.map_cons, List.map_nil]); first | done | rfl | (simp only [List.length_drop, List.length_take]; rfl)) ?_; (with_reducible refine (spec_Failing.calls k _ _ t232 _ _ t233 t246 _ ?side1 ?side2 ?side3 ?side4 A8.out).mono ?_); (case side1 => repeat (first | exact (Kd.S_reads' HO235.out).2.2 | (with_reducible refine Kd.C_alloc ?_ _) | (with_reducible refine Kd.C_drewN ?_ _) | (with_reducible refine Kd.C_drew ?_))); (case side2 => exact (Kd.S_reads' HO235.out).2.1); (case side3 => repeat (first | exact (Kd.R_reads' HO237.out).2.2 | (with_reducible refine Kd.C_alloc ?_ _) | (with_reducible refine Kd.C_drewN ?_ _) | (with_reducible refine Kd.C_drew ?_))); (case side4 => exact (Kd.R_reads' HO237.out).2.1); rintro e w55 ⟨v247, rfl, ho0, hb⟩; refine ⟨_, rfl, ?_⟩; have n0_ := Aside0.mk (Kd.S_elder' (by (with_reducible repeat (first | apply Kd.S_alloc | apply Kd.S_drewN | apply Kd.S_drew)); exact HO235.out) (Kd.R_base ho0) hb); have n1_ := Aside0.mk (Kd.R_elder' (by (with_reducible repeat (first | apply Kd.R_alloc | apply Kd.R_drewN | apply Kd.R_drew)); exact HO237.out) (Kd.R_base ho0) hb); have n2_ := Aside0.mk (Kd.R_elder' (by (with_reducible repeat (first | apply Kd.R_alloc | apply Kd.R_drewN | apply Kd.R_drew)); exact HO240.out) (Kd.R_base ho0) hb); have n3_ := Aside0.mk (Kd.R_lower (Kd.R_new' (Kd.R_new' ho0 (Kd.R_lt (by (with_reducible repeat (first | apply Kd.R_alloc | apply Kd.R_drewN | apply Kd.R_drew)); exact HO237.out))) (Kd.R_lt (by (with_reducible repeat (first | apply Kd.R_alloc | apply Kd.R_drewN | apply Kd.R_drew)); exact HO240.out))) (below_size (by repeat (first | (with_reducible first | exact HB.out | apply below_alloc | apply pw_below_drewN | apply below_drew1) | exact HB.out)))); have n4_ := Aside0.mk (below_step (by repeat (first | (with_reducible first | exact HB.out | apply below_alloc | apply pw_below_drewN | apply below_drew1) | exact HB.out)) hb); clear HO235; clear HO237; clear HO240; clear HB; have HO235 := n0_; have HO237 := n1_; have HO240 := n2_; have HO248 := n3_; have HB := n4_; clear n0_ n1_ n2_ n3_ n4_; (try clear hb); (try clear hb2); (try clear hk); (try clear hi); (try clear ho0); obtain ⟨Ao56, co56, eo56⟩ := Kd.R_slice HO248.out; subst eo56))
        go_ret
        exact ⟨by first | rfl | (simp [errW_none, errW_some] <;> rfl) | (simp [*, errW_none, errW_some] <;> rfl), by repeat (first | (with_reducible first | exact HB.out | apply below_alloc | apply pw_below_drewN | apply below_drew1) | exact HB.out)⟩
    · replace c7 := Bool.eq_false_iff.mpr c7
      subst c7
      have H1 : (if (t238.length : Int) = 0 then ((impl_UnitsOk.f (([] : List (S32)))).bind fun t245 => (some t245)) else (some false)) = some r := by rw [if_neg (show ¬ (false = true) by decide)] at H; exact H
      clear H
      have H := H1
      clear H1
      by_cases c57 : (t238.length : Int) = 0
      · rw [if_pos c57] at H
        have c57b0 : ((t238.length : Int) == 0) = true := beq_iff_eq.mpr c57
        have c57b1 : ((t238.length : Int) != 0) = false := bne_eq_false_iff_eq.mpr c57
        clear c57
        obtain ⟨y242, hy242⟩ : ∃ y_ : List (S32), y_ = (([] : List (S32))) := ⟨_, rfl⟩
        replace H : ((impl_UnitsOk.f y242).bind fun t245 => (some t245)) = some r := by first | (rw [hy242]; with_reducible exact H) | (have H2_ := (Option.bind_some _ _).symm.trans H; rw [hy242]; with_reducible exact H2_) | (have H2_ := (Option.bind_some _ _).symm.trans H; with_reducible exact H2_) | with_reducible exact H | (rw [hy242]; exact H) | exact H
        have Ny242 := Aside0.mk hy242
        clear hy242
        replace H := Option.bind_eq_some_iff.mp H
        obtain ⟨t245, A580, H⟩ := H
        replace H : (some t245) = some r := H
        have A58 := Aside0.mk A580
        clear A580
        obtain rfl := Option.some.inj H
        go_enter Try.func3, Try.ntmps3
        go_wp2_with (first | ((with_reducible refine gate_callee (f := 10) rfl ?_); refine goesL_ (some 12) rfl rfl Try.func10 (by kernel_rfl) rfl #[.slice A0 l0.length c0] rfl (by (try simp only [List.map_toArray, List.map_cons, List.map_nil]); first | done | rfl | (simp only [List.length_drop, List.length_take]; rfl)) ?_; (with_reducible refine (laws_big.calls _ _ l0 false _ ?side1 ?side2 A2.out).mono ?_); (case side1 => repeat (first | exact HR0.out | (with_reducible refine Kd.C_alloc ?_ _) | (with_reducible refine Kd.C_drewN ?_ _) | (with_reducible refine Kd.C_drew ?_))); (case side2 => exact HC0.out); rintro e w' ⟨rfl, ⟨nd, rfl⟩⟩; refine ⟨_, rfl, ?_⟩) | ((with_reducible refine gate_callee (f := 11) rfl ?_); refine goesL_ (some 15) rfl rfl Try.func11 (by kernel_rfl) rfl #[.slice A0 l0.length c0] rfl (by (try simp only [List.map_toArray, List.map_cons, List.map_nil]); first | done | rfl | (simp only [List.length_drop, List.length_take]; rfl)) ?_; (with_reducible refine (spec_DrawFailing.calls k _ _ l0 t232 t233 _ ?side1 ?side2 A4.out).mono ?_); (case side1 => repeat (first | exact HR0.out | (with_reducible refine Kd.C_alloc ?_ _) | (with_reducible refine Kd.C_drewN ?_ _) | (with_reducible refine Kd.C_drew ?_))); (case side2 => exact HC0.out); rintro e w59 ⟨v234, v236, rfl, ho0, ho1, hb⟩; refine ⟨_, rfl, ?_⟩; have n0_ := Aside0.mk (Kd.S_lower ho0 (below_size (by repeat (first | (with_reducible first | exact HB.out | apply below_alloc | apply pw_below_drewN | apply below_drew1) | exact HB.out)))); have n1_ := Aside0.mk (Kd.R_lower ho1 (below_size (by repeat (first | (with_reducible first | exact HB.out | apply below_alloc | apply pw_below_drewN | apply below_drew1) | exact HB.out)))); have n2_ := Aside0.mk (below_step (by repeat (first | (with_reducible first | exact HB.out | apply below_alloc | apply pw_below_drewN | apply below_drew1) | exact HB.out)) hb); clear HB; have HO235 := n0_; have HO237 := n1_; have HB := n2_; clear n0_ n1_ n2_; (try clear hb); (try clear hb2); (try clear hk); (try clear hi); (try clear ho0); (try clear ho1); obtain ⟨Ao60, co60, eo60⟩ := Kd.S_slice HO235.out; subst eo60; obtain ⟨Ao61, co61, eo61⟩ := Kd.R_slice HO237.out; subst eo61) | ((with_reducible refine gate_callee (f := 12) rfl ?_); refine goesL_ (some 20) rfl rfl Try.func12 (by kernel_rfl) rfl #[.slice Ao60 t232.length co60, .slice Ao61 t233.length co61] rfl (by (try simp only [List.map_toArray, List.map_cons, List.map_nil]); first | done | rfl | (simp only [List.length_drop, List.length_take]; rfl)) ?_; (with_reducible refine (impl_Failing.calls _ _ t232 _ _ t233 t238 _ ?side1 ?side2 ?side3 ?side4 A5.out).mono ?_); (case side1 => repeat (first | exact (Kd.S_reads' HO235.out).2.2 | (with_reducible refine Kd.C_alloc ?_ _) | (with_reducible refine Kd.C_drewN ?_ _) | (with_reducible refine Kd.C_drew ?_))); (case side2 => exact (Kd.S_reads' HO235.out).2.1); (case side3 => repeat (first | exact (Kd.R_reads' HO237.out).2.2 | (with_reducible refine Kd.C_alloc ?_ _) | (with_reducible refine Kd.C_drewN ?_ _) | (with_reducible refine Kd.C_drew ?_))); (case side4 => exact (Kd.R_reads' HO237.out).2.1); rintro e w62 ⟨v239, rfl, ho0, hb⟩; refine ⟨_, rfl, ?_⟩; have n0_ := Aside0.mk (Kd.S_elder' (by (with_reducible repeat (first | apply Kd.S_alloc | apply Kd.S_drewN | apply Kd.S_drew)); exact HO235.out) (Kd.R_base ho0) hb); have n1_ := Aside0.mk (Kd.R_elder' (by (with_reducible repeat (first | apply Kd.R_alloc | apply Kd.R_drewN | apply Kd.R_drew)); exact HO237.out) (Kd.R_base ho0) hb); have n2_ := Aside0.mk (Kd.R_lower (Kd.R_new' ho0 (Kd.R_lt (by (with_reducible repeat (first | apply Kd.R_alloc | apply Kd.R_drewN | apply Kd.R_drew)); exact HO237.out))) (below_size (by repeat (first | (with_reducible first | exact HB.out | apply below_alloc | apply pw_below_drewN | apply below_drew1) | exact HB.out)))); have n3_ := Aside0.mk (below_step (by repeat (first | (with_reducible first | exact HB.out | apply below_alloc | apply pw_below_drewN | apply below_drew1) | exact HB.out)) hb); clear HO235; clear HO237; clear HB; have HO235 := n0_; have HO237 := n1_; have HO240 := n2_; have HB := n3_; clear n0_ n1_ n2_ n3_; (try clear hb); (try clear hb2); (try clear hk); (try clear hi); (try clear ho0)) | ((with_reducible refine gate_callee (f := 13) rfl ?_); refine goesL_ (some 22) rfl rfl Try.func13 (by kernel_rfl) rfl #[.slice Ao60 t232.length co60] rfl (by (try simp only [List.map_toArray, List.map_cons, List.map_nil]); first | done | rfl | (simp only [List.length_drop, List.length_take]; rfl)) ?_; (with_reducible refine (spec_UnitsOk.calls _ _ t232 false _ ?side1 ?side2 A6.out).mono ?_); (case side1 => repeat (first | exact (Kd.S_reads' HO235.out).2.2 | (with_reducible refine Kd.C_alloc ?_ _) | (with_reducible refine Kd.C_drewN ?_ _) | (with_reducible refine Kd.C_drew ?_))); (case side2 => exact (Kd.S_reads' HO235.out).2.1); rintro e w63 ⟨rfl, hb⟩; refine ⟨_, rfl, ?_⟩; have n0_ := Aside0.mk (Kd.S_below (by (with_reducible repeat (first | apply Kd.S_alloc | apply Kd.S_drewN | apply Kd.S_drew)); exact HO235.out) hb); have n1_ := Aside0.mk (Kd.R_below (by (with_reducible repeat (first | apply Kd.R_alloc | apply Kd.R_drewN | apply Kd.R_drew)); exact HO237.out) hb); have n2_ := Aside0.mk (Kd.R_below (by (with_reducible repeat (first | apply Kd.R_alloc | apply Kd.R_drewN | apply Kd.R_drew)); exact HO240.out) hb); have n3_ := Aside0.mk (below_step (by repeat (first | (with_reducible first | exact HB.out | apply below_alloc | apply pw_below_drewN | apply below_drew1) | exact HB.out)) hb); clear HO235; clear HO237; clear HO240; clear HB; have HO235 := n0_; have HO237 := n1_; have HO240 := n2_; have HB := n3_; clear n0_ n1_ n2_ n3_; (try clear hb); (try clear hb2); (try clear hk); (try clear hi); obtain ⟨Ao64, co64, eo64⟩ := Kd.R_slice HO240.out; subst eo64) | ((with_reducible refine gate_dst (N := 28) rfl ?_); (try (refine gate_guard (by rfl) ?_; dsimp only)); refine Kd.S_lit k32 _ 32 ?hg (N := 28) ?hd (xs := ([] : List (S32))) (inner := []) (ok := fun _ => True) (okp := fun _ => True) ?hr ?hp (fun _ hk => hk) trivial (Below.refl _ _) (Nat.le_refl _) (by simp) ?_; (case hd => rfl); (case hg => rfl); (case hr => first | (go_simp; done) | (go_simp; rfl)); (case hp => exact (Reps.none _ _)); intro v243 w65 ho66 hb hg_ hnew_; clear hg_ hnew_; (first | rw [← Ny242.out] at ho66 | (simp only [Int.reduceToNat] at ho66; rw [← Ny242.out] at ho66)); have n0_ := Aside0.mk (Kd.S_elder' (by (with_reducible repeat (first | apply Kd.S_alloc | apply Kd.S_drewN | apply Kd.S_drew)); exact HO235.out) (Kd.S_base ho66) hb); have n1_ := Aside0.mk (Kd.R_below (by (with_reducible repeat (first | apply Kd.R_alloc | apply Kd.R_drewN | apply Kd.R_drew)); exact HO237.out) hb); have n2_ := Aside0.mk (Kd.R_below (by (with_reducible repeat (first | apply Kd.R_alloc | apply Kd.R_drewN | apply Kd.R_drew)); exact HO240.out) hb); have n3_ := Aside0.mk (Kd.S_lower (Kd.S_new' (Kd.S_new' (Kd.S_new' ho66 (Kd.S_lt (by (with_reducible repeat (first | apply Kd.S_alloc | apply Kd.S_drewN | apply Kd.S_drew)); exact HO235.out))) (Kd.R_lt (by (with_reducible repeat (first | apply Kd.R_alloc | apply Kd.R_drewN | apply Kd.R_drew)); exact HO237.out))) (Kd.R_lt (by (with_reducible repeat (first | apply Kd.R_alloc | apply Kd.R_drewN | apply Kd.R_drew)); exact HO240.out))) (below_size (by repeat (first | (with_reducible first | exact HB.out | apply below_alloc | apply pw_below_drewN | apply below_drew1) | exact HB.out)))); have n4_ := Aside0.mk (below_step (by repeat (first | (with_reducible first | exact HB.out | apply below_alloc | apply pw_below_drewN | apply below_drew1) | exact HB.out)) hb); clear HO235; clear HO237; clear HO240; clear HB; have HO235 := n0_; have HO237 := n1_; have HO240 := n2_; have HO244 := n3_; have HB := n4_; clear n0_ n1_ n2_ n3_ n4_; clear hb ho66; obtain ⟨Ao67, co67, eo67⟩ := Kd.S_slice HO244.out; subst eo67) | (go_at_call 14; (with_reducible refine (impl_UnitsOk.calls _ _ y242 t245 _ ?side1 ?side2 A58.out).mono ?_); (case side1 => repeat (first | exact (Kd.S_reads' HO244.out).2.2 | (with_reducible refine Kd.C_alloc ?_ _) | (with_reducible refine Kd.C_drewN ?_ _) | (with_reducible refine Kd.C_drew ?_))); (case side2 => exact (Kd.S_reads' HO244.out).2.1); rintro e w68 ⟨rfl, hb⟩; have n0_ := Aside0.mk (Kd.S_below (by (with_reducible repeat (first | apply Kd.S_alloc | apply Kd.S_drewN | apply Kd.S_drew)); exact HO235.out) hb); have n1_ := Aside0.mk (Kd.R_below (by (with_reducible repeat (first | apply Kd.R_alloc | apply Kd.R_drewN | apply Kd.R_drew)); exact HO237.out) hb); have n2_ := Aside0.mk (Kd.R_below (by (with_reducible repeat (first | apply Kd.R_alloc | apply Kd.R_drewN | apply Kd.R_drew)); exact HO240.out) hb); have n3_ := Aside0.mk (Kd.S_below (by (with_reducible repeat (first | apply Kd.S_alloc | apply Kd.S_drewN | apply Kd.S_drew)); exact HO244.out) hb); have n4_ := Aside0.mk (below_step (by repeat (first | (with_reducible first | exact HB.out | apply below_alloc | apply pw_below_drewN | apply below_drew1) | exact HB.out)) hb); clear HO235; clear HO237; clear HO240; clear HO244; clear HB; have HO235 := n0_; have HO237 := n1_; have HO240 := n2_; have HO244 := n3_; have HB := n4_; clear n0_ n1_ n2_ n3_ n4_; (try clear hb); (try clear hb2); (try clear hk); (try clear hi)))
        go_ret
        exact ⟨by first | rfl | (simp [errW_none, errW_some] <;> rfl) | (simp [*, errW_none, errW_some] <;> rfl), by repeat (first | (with_reducible first | exact HB.out | apply below_alloc | apply pw_below_drewN | apply below_drew1) | exact HB.out)⟩
      · rw [if_neg c57] at H
        have c57b0 : ((t238.length : Int) == 0) = false := beq_eq_false_iff_ne.mpr c57
        have c57b1 : ((t238.length : Int) != 0) = true := bne_iff_ne.mpr c57
        have c57b2 : ¬ (t238 = []) := fun h_ => c57 (by rw [h_]; rfl)
        obtain rfl := Option.some.inj H
        go_enter Try.func3, Try.ntmps3
        go_wp2_with (first | ((with_reducible refine gate_callee (f := 10) rfl ?_); refine goesL_ (some 12) rfl rfl Try.func10 (by kernel_rfl) rfl #[.slice A0 l0.length c0] rfl (by (try simp only [List.map_toArray, List.map_cons, List.map_nil]); first | done | rfl | (simp only [List.length_drop, List.length_take]; rfl)) ?_; (with_reducible refine (laws_big.calls _ _ l0 false _ ?side1 ?side2 A2.out).mono ?_); (case side1 => repeat (first | exact HR0.out | (with_reducible refine Kd.C_alloc ?_ _) | (with_reducible refine Kd.C_drewN ?_ _) | (with_reducible refine Kd.C_drew ?_))); (case side2 => exact HC0.out); rintro e w' ⟨rfl, ⟨nd, rfl⟩⟩; refine ⟨_, rfl, ?_⟩) | ((with_reducible refine gate_callee (f := 11) rfl ?_); refine goesL_ (some 15) rfl rfl Try.func11 (by kernel_rfl) rfl #[.slice A0 l0.length c0] rfl (by (try simp only [List.map_toArray, List.map_cons, List.map_nil]); first | done | rfl | (simp only [List.length_drop, List.length_take]; rfl)) ?_; (with_reducible refine (spec_DrawFailing.calls k _ _ l0 t232 t233 _ ?side1 ?side2 A4.out).mono ?_); (case side1 => repeat (first | exact HR0.out | (with_reducible refine Kd.C_alloc ?_ _) | (with_reducible refine Kd.C_drewN ?_ _) | (with_reducible refine Kd.C_drew ?_))); (case side2 => exact HC0.out); rintro e w69 ⟨v234, v236, rfl, ho0, ho1, hb⟩; refine ⟨_, rfl, ?_⟩; have n0_ := Aside0.mk (Kd.S_lower ho0 (below_size (by repeat (first | (with_reducible first | exact HB.out | apply below_alloc | apply pw_below_drewN | apply below_drew1) | exact HB.out)))); have n1_ := Aside0.mk (Kd.R_lower ho1 (below_size (by repeat (first | (with_reducible first | exact HB.out | apply below_alloc | apply pw_below_drewN | apply below_drew1) | exact HB.out)))); have n2_ := Aside0.mk (below_step (by repeat (first | (with_reducible first | exact HB.out | apply below_alloc | apply pw_below_drewN | apply below_drew1) | exact HB.out)) hb); clear HB; have HO235 := n0_; have HO237 := n1_; have HB := n2_; clear n0_ n1_ n2_; (try clear hb); (try clear hb2); (try clear hk); (try clear hi); (try clear ho0); (try clear ho1); obtain ⟨Ao70, co70, eo70⟩ := Kd.S_slice HO235.out; subst eo70; obtain ⟨Ao71, co71, eo71⟩ := Kd.R_slice HO237.out; subst eo71) | ((with_reducible refine gate_callee (f := 12) rfl ?_); refine goesL_ (some 20) rfl rfl Try.func12 (by kernel_rfl) rfl #[.slice Ao70 t232.length co70, .slice Ao71 t233.length co71] rfl (by (try simp only [List.map_toArray, List.map_cons, List.map_nil]); first | done | rfl | (simp only [List.length_drop, List.length_take]; rfl)) ?_; (with_reducible refine (impl_Failing.calls _ _ t232 _ _ t233 t238 _ ?side1 ?side2 ?side3 ?side4 A5.out).mono ?_); (case side1 => repeat (first | exact (Kd.S_reads' HO235.out).2.2 | (with_reducible refine Kd.C_alloc ?_ _) | (with_reducible refine Kd.C_drewN ?_ _) | (with_reducible refine Kd.C_drew ?_))); (case side2 => exact (Kd.S_reads' HO235.out).2.1); (case side3 => repeat (first | exact (Kd.R_reads' HO237.out).2.2 | (with_reducible refine Kd.C_alloc ?_ _) | (with_reducible refine Kd.C_drewN ?_ _) | (with_reducible refine Kd.C_drew ?_))); (case side4 => exact (Kd.R_reads' HO237.out).2.1); rintro e w72 ⟨v239, rfl, ho0, hb⟩; refine ⟨_, rfl, ?_⟩; have n0_ := Aside0.mk (Kd.S_elder' (by (with_reducible repeat (first | apply Kd.S_alloc | apply Kd.S_drewN | apply Kd.S_drew)); exact HO235.out) (Kd.R_base ho0) hb); have n1_ := Aside0.mk (Kd.R_elder' (by (with_reducible repeat (first | apply Kd.R_alloc | apply Kd.R_drewN | apply Kd.R_drew)); exact HO237.out) (Kd.R_base ho0) hb); have n2_ := Aside0.mk (Kd.R_lower (Kd.R_new' ho0 (Kd.R_lt (by (with_reducible repeat (first | apply Kd.R_alloc | apply Kd.R_drewN | apply Kd.R_drew)); exact HO237.out))) (below_size (by repeat (first | (with_reducible first | exact HB.out | apply below_alloc | apply pw_below_drewN | apply below_drew1) | exact HB.out)))); have n3_ := Aside0.mk (below_step (by repeat (first | (with_reducible first | exact HB.out | apply below_alloc | apply pw_below_drewN | apply below_drew1) | exact HB.out)) hb); clear HO235; clear HO237; clear HB; have HO235 := n0_; have HO237 := n1_; have HO240 := n2_; have HB := n3_; clear n0_ n1_ n2_ n3_; (try clear hb); (try clear hb2); (try clear hk); (try clear hi); (try clear ho0)) | ((with_reducible refine gate_callee (f := 13) rfl ?_); refine goesL_ (some 22) rfl rfl Try.func13 (by kernel_rfl) rfl #[.slice Ao70 t232.length co70] rfl (by (try simp only [List.map_toArray, List.map_cons, List.map_nil]); first | done | rfl | (simp only [List.length_drop, List.length_take]; rfl)) ?_; (with_reducible refine (spec_UnitsOk.calls _ _ t232 false _ ?side1 ?side2 A6.out).mono ?_); (case side1 => repeat (first | exact (Kd.S_reads' HO235.out).2.2 | (with_reducible refine Kd.C_alloc ?_ _) | (with_reducible refine Kd.C_drewN ?_ _) | (with_reducible refine Kd.C_drew ?_))); (case side2 => exact (Kd.S_reads' HO235.out).2.1); rintro e w73 ⟨rfl, hb⟩; refine ⟨_, rfl, ?_⟩; have n0_ := Aside0.mk (Kd.S_below (by (with_reducible repeat (first | apply Kd.S_alloc | apply Kd.S_drewN | apply Kd.S_drew)); exact HO235.out) hb); have n1_ := Aside0.mk (Kd.R_below (by (with_reducible repeat (first | apply Kd.R_alloc | apply Kd.R_drewN | apply Kd.R_drew)); exact HO237.out) hb); have n2_ := Aside0.mk (Kd.R_below (by (with_reducible repeat (first | apply Kd.R_alloc | apply Kd.R_drewN | apply Kd.R_drew)); exact HO240.out) hb); have n3_ := Aside0.mk (below_step (by repeat (first | (with_reducible first | exact HB.out | apply below_alloc | apply pw_below_drewN | apply below_drew1) | exact HB.out)) hb); clear HO235; clear HO237; clear HO240; clear HB; have HO235 := n0_; have HO237 := n1_; have HO240 := n2_; have HB := n3_; clear n0_ n1_ n2_ n3_; (try clear hb); (try clear hb2); (try clear hk); (try clear hi); obtain ⟨Ao74, co74, eo74⟩ := Kd.R_slice HO240.out; subst eo74))
        go_ret
        exact ⟨by first | rfl | (simp [errW_none, errW_some] <;> rfl) | (simp [*, errW_none, errW_some] <;> rfl), by repeat (first | (with_reducible first | exact HB.out | apply below_alloc | apply pw_below_drewN | apply below_drew1) | exact HB.out)⟩
def laws_FnFailing.Pure : Prop := ∀ (l0 : List Int), l0.length ≤ maxLen → l0.length * 1 ≤ 140737488351232 → (∀ x ∈ l0, (Lit.int .u8 x).wf = true) → ∃ k, laws_FnFailing.f k l0 = some true
theorem laws_FnFailing.walk (P : laws_FnFailing.Pure) (a0 : Option Addr) (len0 cap0 : Nat) (z0 : List Int) (w : World) (w0 : (a0 = none ∧ len0 = 0 ∧ cap0 = 0 ∧ z0 = []) ∨ ∃ x, a0 = some x ∧ len0 ≤ cap0 ∧ cap0 ≤ maxLen ∧ z0.length = cap0 ∧ (∀ i, i < z0.length → w.cell? (x.add i) = some (.int .u8 (z0.getD i 0))) ∧ ∀ n ∈ z0, (Lit.int .u8 n).wf = true) (y0 : len0 * 1 ≤ 140737488351232) :
    Calls Try.prog 3 #[.slice a0 len0 cap0] w fun e w' => e = .returned (.bool true) ∧ Below w.heap.size w w' := by
  obtain ⟨l0, rfl, hr0, hm0, hw0, hc0⟩ := ReadsInt.ofRowC w0
  obtain ⟨k, h⟩ := P l0 hm0 y0 hw0
  refine (laws_FnFailing.calls k _ _ l0 true w (Kd.C_of_reads (d := (0 : Int)) (h1 := fun _ => rfl) hr0) hc0 h).mono ?_
  rintro e w' ⟨rfl, hd⟩
  exact ⟨rfl, hd⟩
end Go.Proofs.Ytnjmhlhlmokjnaa.G
namespace Go.Proofs.Ytnjmhlhlmokjnaa.G
open Go.RowKit Go.Proofs.YtnjmhlhlmokjnaaW.PrintWords Go.Proofs.YtnjmhlhlmokjnaaW.PrintLast
set_option linter.unusedVariables false
set_option linter.unusedSimpArgs false
theorem nodup_sub_len : ∀ {xs l : List ByteArray}, xs.Nodup → (∀ x ∈ xs, x ∈ l) → xs.length ≤ l.length
  | [], _, _, _ => Nat.zero_le _
  | x :: xs, l, h, hs => by
    have h' := List.nodup_cons.1 h
    letI : BEq ByteArray := instBEqOfDecidableEq
    have := nodup_sub_len (xs := xs) (l := l.erase x) h'.2 (fun y hy => (List.mem_erase_of_ne (fun e => h'.1 (by rw [← e]; exact hy))).2 (hs y (by simp [hy])))
    have h2 := List.length_erase_of_mem (hs x (by simp))
    have h3 := List.length_pos_of_mem (hs x (by simp))
    simp only [List.length_cons]
    omega
theorem l3Add_loop (l : List ByteArray) (x : ByteArray) (hl : l.length ≤ 1000000) (d : Nat) : ∀ i : Nat, i + d = l.length → Ev (fun k => spec_l3Add.l0 k l x (i : Int)) (l.take i ++ insB x (l.drop i)) := by
  induction d with
  | zero =>
    intro i hi
    have e : l.drop i = [] := List.drop_eq_nil_of_le (by omega)
    have e2 : l.take i = l := List.take_of_length_le (by omega)
    rw [e, e2]
    refine Ev.step (f := fun _ => some (l ++ [x])) (fun k => ?_) (Ev.now _)
    rw [spec_l3Add.l0, if_neg (by omega)]
    simp only [Option.bind_some, List.length_nil, List.nil_append, Int.toNat_natCast, Nat.zero_add]
    rw [if_pos (by omega), if_pos (by omega), e2, e, if_pos (by omega), if_pos (by omega), if_pos (by simp; omega), List.append_nil]
  | succ d ih =>
    intro i hi
    have hx := ih (i + 1) (by omega)
    have hw : wrap64 ((i : Int) + 1) = ((i + 1 : Nat) : Int) := by rw [wrap_id (by omega) (by omega)]; omega
    have hil : i < l.length := by omega
    have e : l.drop i = l[i] :: l.drop (i + 1) := List.drop_eq_getElem_cons hil
    have lt : (l.take i).length = i := by rw [List.length_take]; omega
    have lt2 : (l.drop i).length = l.length - i := List.length_drop
    by_cases h1 : lessB l[i] x = true
    · have h1' : Op.bytesLess (l[i]).toList x.toList = true := h1
      have e2 : l.take i ++ insB x (l.drop i) = l.take (i + 1) ++ insB x (l.drop (i + 1)) := by
        rw [e, List.take_succ_eq_append_getElem hil]
        simp only [insB, if_pos h1, List.append_assoc, List.singleton_append]
      rw [e2]
      exact Ev.step (fun k => by rw [spec_l3Add.l0, if_pos (by omega), if_pos (by omega), rdOf_nat _ l i hil, if_pos h1', hw]) hx
    · have h1' : ¬ Op.bytesLess (l[i]).toList x.toList = true := h1
      by_cases h2 : l[i] = x
      · have e2 : l.take i ++ insB x (l.drop i) = l := by
          rw [e]
          simp only [insB, if_neg h1, if_pos h2]
          rw [← e, List.take_append_drop]
        rw [e2]
        exact Ev.step (f := fun _ => some l) (fun k => by rw [spec_l3Add.l0, if_pos (by omega), if_pos (by omega), rdOf_nat _ l i hil, if_neg h1', if_pos (by rw [h2])]) (Ev.now _)
      · have e2 : insB x (l.drop i) = x :: l.drop i := by
          rw [e]
          simp only [insB, if_neg h1, if_neg h2]
        rw [e2]
        refine Ev.step (f := fun _ => some (l.take i ++ x :: l.drop i)) (fun k => ?_) (Ev.now _)
        rw [spec_l3Add.l0, if_pos (by omega), if_pos (by omega), rdOf_nat _ l i hil, if_neg h1', if_neg (fun h => h2 (toList_inj h))]
        simp only [Option.bind_some, List.length_nil, List.nil_append, Int.toNat_natCast, Nat.zero_add]
        rw [if_pos (by omega), if_pos (by omega), if_pos (by omega), if_pos (by rw [List.length_append, lt, lt2]; simp; omega)]
        simp
theorem l3Add_ev (l : List ByteArray) (x : ByteArray) (hl : l.length ≤ 1000000) : Ev (fun k => spec_l3Add.f k l x) (insB x l) := by
  have := l3Add_loop l x hl l.length 0 (by omega)
  rwa [List.take_zero, List.drop_zero, List.nil_append] at this
def condB (us : List S32) (br o : List ByteArray) (u : S32) : Bool := decide (u.f0 ∈ br) || badB us o u
def stepO (us : List S32) (br o : List ByteArray) (u : S32) : List ByteArray := if condB us br o u = true then insB u.f0 o else o
def passO (us : List S32) (br o : List ByteArray) : List ByteArray := us.foldl (stepO us br) o
def iterO (us : List S32) (br : List ByteArray) : Nat → List ByteArray → List ByteArray
  | 0, o => o
  | n + 1, o => iterO us br n (passO us br o)
structure OkO (us : List S32) (br o : List ByteArray) : Prop where
  asc : Asc o
  sound : ∀ x ∈ o, x ∈ failL us br
theorem OkO.len {us : List S32} {br o : List ByteArray} (h : OkO us br o) : o.length ≤ us.length := by
  have h1 := nodup_sub_len (asc_nodup h.asc) (fun x hx => of_decide_eq_true (failL_has x (h.sound x hx)))
  simpa [namesU] using h1
theorem badB_mono {us : List S32} {o o' : List ByteArray} (h : ∀ x ∈ o, x ∈ o') {u : S32} (hb : badB us o u = true) : badB us o' u = true := by
  obtain ⟨n, h1, h2⟩ := badB_iff.1 hb
  exact badB_iff.2 ⟨n, h1, h2.imp id (h n)⟩
theorem condB_mono {us : List S32} {br o o' : List ByteArray} (h : ∀ x ∈ o, x ∈ o') {u : S32} (hb : condB us br o u = true) : condB us br o' u = true := by
  unfold condB at hb ⊢
  rw [Bool.or_eq_true] at hb ⊢
  exact hb.imp id (badB_mono h)
theorem stepO_sub (us : List S32) (br o : List ByteArray) (u : S32) : ∀ x ∈ o, x ∈ stepO us br o u := by
  intro x hx
  unfold stepO
  split
  · exact (mem_insB _ _ _).2 (.inr hx)
  · exact hx
theorem OkO.step {us : List S32} {br o : List ByteArray} (h : OkO us br o) {u : S32} (hu : u ∈ us) : OkO us br (stepO us br o u) := by
  unfold stepO
  split
  · rename_i hc
    refine ⟨asc_insB _ _ h.asc, fun x hx => ?_⟩
    rcases (mem_insB _ _ _).1 hx with rfl | hx
    · unfold condB at hc
      rw [Bool.or_eq_true] at hc
      rcases hc with hc | hc
      · exact failL_base (of_decide_eq_true hc) (decide_eq_true (List.mem_map.2 ⟨u, hu, rfl⟩))
      · obtain ⟨n, h1, h2⟩ := badB_iff.1 hc
        exact failL_closed us br u hu ⟨n, h1, h2.imp id (h.sound n)⟩
    · exact h.sound x hx
  · exact h
theorem fold_sub (us : List S32) (br : List ByteArray) : ∀ (l : List S32) (o : List ByteArray), ∀ x ∈ o, x ∈ l.foldl (stepO us br) o
  | [], _, _, h => h
  | u :: l, o, x, h => fold_sub us br l _ x (stepO_sub us br o u x h)
theorem fold_mem (us : List S32) (br : List ByteArray) : ∀ (l : List S32) (o : List ByteArray) (u : S32), u ∈ l → condB us br o u = true → u.f0 ∈ l.foldl (stepO us br) o
  | a :: l, o, u, hu, hc => by
    rcases List.mem_cons.1 hu with rfl | hu
    · refine fold_sub us br l _ _ ?_
      unfold stepO
      rw [if_pos hc]
      exact (mem_insB _ _ _).2 (.inl rfl)
    · exact fold_mem us br l _ u hu (condB_mono (stepO_sub us br o a) hc)
theorem OkO.fold {us : List S32} {br : List ByteArray} : ∀ (l : List S32) (o : List ByteArray), (∀ u ∈ l, u ∈ us) → OkO us br o → OkO us br (l.foldl (stepO us br) o)
  | [], _, _, h => h
  | u :: l, o, hl, h => OkO.fold l _ (fun v hv => hl v (List.mem_cons_of_mem _ hv)) (h.step (hl u List.mem_cons_self))
def Stable (us : List S32) (br o : List ByteArray) : Prop := ∀ u ∈ us, condB us br o u = true → u.f0 ∈ o
theorem fold_stable {us : List S32} {br o0 : List ByteArray} (hs : Stable us br o0) : ∀ (l : List S32) (o : List ByteArray), (∀ u ∈ l, u ∈ us) → (∀ x, x ∈ o ↔ x ∈ o0) → ∀ x, x ∈ l.foldl (stepO us br) o ↔ x ∈ o0
  | [], _, _, h, x => h x
  | u :: l, o, hl, h, x => by
    refine fold_stable hs l _ (fun v hv => hl v (List.mem_cons_of_mem _ hv)) (fun y => ?_) x
    unfold stepO
    split
    · rename_i hc
      rw [mem_insB, h y]
      constructor
      · rintro (rfl | h')
        · exact hs u (hl u List.mem_cons_self) (condB_mono (fun x hx => (h x).1 hx) hc)
        · exact h'
      · exact .inr
    · exact h y
theorem Stable.congr {us : List S32} {br o o' : List ByteArray} (h : Stable us br o) (e : ∀ x, x ∈ o' ↔ x ∈ o) : Stable us br o' := fun u hu hc => (e _).2 (h u hu (condB_mono (fun x hx => (e x).1 hx) hc))
theorem iter_stable {us : List S32} {br : List ByteArray} : ∀ n o, Stable us br o → ∀ x, x ∈ iterO us br n o ↔ x ∈ o
  | 0, _, _, _ => Iff.rfl
  | n + 1, o, h, x => by
    have e := fold_stable h us o (fun _ hu => hu) (fun _ => Iff.rfl)
    exact (iter_stable n _ (h.congr e) x).trans (e x)
theorem iter_count {us : List S32} {br : List ByteArray} : ∀ n o, Stable us br (iterO us br n o) ∨ n + cntL us o ≤ cntL us (iterO us br n o)
  | 0, o => .inr (by simp [iterO])
  | n + 1, o => by
    by_cases hc : Stable us br o
    · exact .inl (hc.congr (iter_stable (n + 1) o hc))
    · refine (iter_count n _).imp id (fun h => ?_)
      have : cntL us o < cntL us (passO us br o) := by
        refine countP_lt (fun u hu h => decide_eq_true (fold_sub us br us o _ (of_decide_eq_true h))) ?_
        obtain ⟨u, hu⟩ := Classical.not_forall.1 hc
        obtain ⟨h1, h2⟩ := Classical.not_imp.1 hu
        obtain ⟨h2, h3⟩ := Classical.not_imp.1 h2
        exact ⟨u, h1, decide_eq_false h3, decide_eq_true (fold_mem us br us o u h1 h2)⟩
      unfold iterO
      omega
theorem OkO.iter {us : List S32} {br : List ByteArray} : ∀ n o, OkO us br o → OkO us br (iterO us br n o)
  | 0, _, h => h
  | n + 1, o, h => OkO.iter n _ (OkO.fold us o (fun _ hu => hu) h)
theorem iter_is (us : List S32) (br : List ByteArray) : iterO us br (us.length + 1) [] = canonL (failL us br) := by
  have h0 : OkO us br [] := ⟨List.Pairwise.nil, fun x hx => by cases hx⟩
  have h := OkO.iter (us.length + 1) [] h0
  have hs : Stable us br (iterO us br (us.length + 1) []) := by
    rcases iter_count (us := us) (br := br) (us.length + 1) [] with h | h
    · exact h
    · have : cntL us (iterO us br (us.length + 1) []) ≤ us.length := List.countP_le_length
      omega
  refine asc_unique _ _ h.asc (asc_canonL _) (fun x => ?_)
  rw [mem_canonL]
  refine ⟨h.sound x, failL_least ?_ ?_ x⟩
  · intro u hu ⟨n, hn, hb⟩
    refine hs u hu ?_
    unfold condB
    rw [Bool.or_eq_true]
    exact .inr (badB_iff.2 ⟨n, hn, hb⟩)
  · intro x hx hh
    obtain ⟨u, hu, rfl⟩ := List.mem_map.1 (of_decide_eq_true hh)
    refine hs u hu ?_
    unfold condB
    rw [Bool.or_eq_true]
    exact .inl (decide_eq_true hx)
theorem fail_l2 {us : List S32} {br : List ByteArray} (hu : us.length ≤ 100) (n : Int) (i : Nat) (hi : i < us.length) (o : List ByteArray) (ho : o.length ≤ 100) (u : S32) (h2 : u.f2.length ≤ 20) (R : List ByteArray) (d : Nat) : ∀ (j : Nat) (bad : Bool), j + d = u.f2.length →
    Ev (fun k => spec_Failing.l1 k us br (if (bad || (u.f2.drop j).any (fun m => !hasU us m || decide (m ∈ o))) = true then insB u.f0 o else o) n ((i + 1 : Nat) : Int)) R →
    Ev (fun k => spec_Failing.l2 k us br o n (i : Int) bad (j : Int) u.f0 u.f1 u.f2 u.f3 u.f4) R := by
  induction d with
  | zero =>
    intro j bad hj h
    have hw : wrap64 ((i : Int) + 1) = ((i + 1 : Nat) : Int) := by rw [wrap_id (by omega) (by omega)]; omega
    rw [List.drop_eq_nil_of_le (by omega), List.any_nil, Bool.or_false] at h
    cases bad with
    | true =>
      rw [if_pos rfl] at h
      exact Ev.step (fun k => by rw [spec_Failing.l2, if_neg (by omega), if_pos rfl, hw]) (Ev.bind (l3Add_ev o u.f0 (by omega)) h)
    | false =>
      rw [if_neg (by decide)] at h
      exact Ev.step (fun k => by rw [spec_Failing.l2, if_neg (by omega), if_neg (by decide), hw]) h
  | succ d ih =>
    intro j bad hj h
    have hjl : j < u.f2.length := by omega
    have hw : wrap64 ((j : Int) + 1) = ((j + 1 : Nat) : Int) := by rw [wrap_id (by omega) (by omega)]; omega
    rw [List.drop_eq_getElem_cons hjl, List.any_cons] at h
    cases bad with
    | true =>
      refine Ev.step (fun k => by rw [spec_Failing.l2, if_pos (by omega), if_pos rfl, hw]) (ih (j + 1) true (by omega) ?_)
      simpa using h
    | false =>
      refine Ev.step (fun k => by rw [spec_Failing.l2, if_pos (by omega), if_neg (by decide), if_pos (by omega), hw, rdOf_nat _ _ j hjl]) (Ev.bind (l3Has_ev o u.f2[j] (by omega)) ?_)
      by_cases hm : u.f2[j] ∈ o
      · rw [decide_eq_true hm]
        refine Ev.congr (fun k => if_pos rfl) (ih (j + 1) true (by omega) ?_)
        simpa [hm] using h
      · rw [decide_eq_false hm]
        refine Ev.congr (fun k => if_neg (by decide)) (Ev.bind (l18Find_ev us u.f2[j] (by omega)) (ih (j + 1) _ (by omega) ?_))
        rw [findU_lt]
        simpa [hm] using h
theorem fail_l1 {us : List S32} {br : List ByteArray} (hu : us.length ≤ 100) (hbr : br.length ≤ 9223372036854775807) (hgood : ∀ u ∈ us, u.f2.length ≤ 20) (n : Int) (R : List ByteArray) (d : Nat) : ∀ (i : Nat) (o : List ByteArray), i + d = us.length → OkO us br o →
    Ev (fun k => spec_Failing.l0 k us br ((us.drop i).foldl (stepO us br) o) (wrap64 (n + 1))) R → Ev (fun k => spec_Failing.l1 k us br o n (i : Int)) R := by
  induction d with
  | zero =>
    intro i o hi ho h
    rw [List.drop_eq_nil_of_le (by omega), List.foldl_nil] at h
    exact Ev.step (fun k => by rw [spec_Failing.l1, if_neg (by omega)]) h
  | succ d ih =>
    intro i o hi ho h
    have hil : i < us.length := by omega
    rw [List.drop_eq_getElem_cons hil, List.foldl_cons] at h
    have hmem : us[i] ∈ us := List.getElem_mem hil
    have hol := ho.len
    have hn := ih (i + 1) _ (by omega) (ho.step hmem) h
    refine Ev.step (fun k => by rw [spec_Failing.l1, if_pos (by omega), if_pos (by omega), rd_T32_nat us i hil]) (Ev.bind (l3Has_ev br us[i].f0 hbr) ?_)
    refine fail_l2 hu n i hil o (by omega) us[i] (hgood _ hmem) R us[i].f2.length 0 _ (by omega) ?_
    rw [List.drop_zero]
    exact hn
theorem fail_l0 {us : List S32} {br : List ByteArray} (hu : us.length ≤ 100) (hbr : br.length ≤ 9223372036854775807) (hgood : ∀ u ∈ us, u.f2.length ≤ 20) (d : Nat) : ∀ (n : Nat) (o : List ByteArray), n + d = us.length + 1 → OkO us br o → Ev (fun k => spec_Failing.l0 k us br o (n : Int)) (iterO us br d o) := by
  induction d with
  | zero =>
    intro n o hn ho
    exact Ev.step (f := fun _ => some o) (fun k => by rw [spec_Failing.l0, if_neg (by omega)]) (Ev.now _)
  | succ d ih =>
    intro n o hn ho
    have hw : wrap64 ((n : Int) + 1) = ((n + 1 : Nat) : Int) := by rw [wrap_id (by omega) (by omega)]; omega
    refine Ev.step (fun k => by rw [spec_Failing.l0, if_pos (by omega)]; rfl) (fail_l1 hu hbr hgood (n : Int) _ us.length 0 o (by omega) ho ?_)
    rw [List.drop_zero, hw]
    exact ih (n + 1) _ (by omega) (OkO.fold us o (fun _ hu => hu) ho)
theorem specFailing_ev (us : List S32) (br : List ByteArray) (hbr : br.length ≤ 9223372036854775807) : Ev (fun k => spec_Failing.f k us br) (if unitsOkB us && decide (br.length ≤ 2000) then canonL (failL us br) else []) := by
  cases hok : unitsOkB us with
  | false =>
    refine Ev.congr (fun k => ?_) (Ev.step (g := fun k => spec_Failing.j0 k us br [] true) (f := fun _ => some []) (fun k => by rw [spec_Failing.j0, if_pos rfl]) (Ev.now _))
    simp [spec_Failing.f, spec_UnitsOk.f, hok]
  | true =>
    have hg := good_of_ok hok
    have hgood : ∀ u ∈ us, u.f2.length ≤ 20 := fun u h => by
      have := hg.unit u h
      unfold unitB at this
      simp only [Bool.and_eq_true, decide_eq_true_eq] at this
      exact this.1.1.1.2
    by_cases hl : br.length ≤ 2000
    · rw [decide_eq_true hl]
      refine Ev.congr (f := fun k => spec_Failing.j0 k us br [] false) (fun k => ?_) (Ev.step (fun k => by rw [spec_Failing.j0, if_neg (by decide)]) ?_)
      · rw [spec_Failing.f]
        simp only [Option.bind_some, spec_UnitsOk.f, hok, if_true]
        rw [decide_eq_false (by omega)]
      · have := fail_l0 hg.len hbr hgood (us.length + 1) 0 [] (by omega) ⟨List.Pairwise.nil, fun x hx => by cases hx⟩
        rw [iter_is] at this
        exact this
    · rw [decide_eq_false hl]
      refine Ev.congr (f := fun k => spec_Failing.j0 k us br [] true) (fun k => ?_) (Ev.step (f := fun _ => some []) (fun k => by rw [spec_Failing.j0, if_pos rfl]) (Ev.now _))
      rw [spec_Failing.f]
      simp only [Option.bind_some, spec_UnitsOk.f, hok, if_true]
      rw [decide_eq_true (by omega)]
end Go.Proofs.Ytnjmhlhlmokjnaa.G
namespace Go.Proofs.Ytnjmhlhlmokjnaa.G
open Go.RowKit Go.Proofs.YtnjmhlhlmokjnaaW.PrintWords Go.Proofs.YtnjmhlhlmokjnaaW.PrintLast
set_option linter.unusedVariables false
set_option linter.unusedSimpArgs false
theorem and255 (x : Int) : 0 ≤ Go.bits .and .i64 x 255 ∧ Go.bits .and .i64 x 255 ≤ 255 := by
  unfold Go.bits
  simp only [BitVec.toNat_and]
  have h : (BitVec.ofInt IntKind.i64.bits x).toNat &&& (BitVec.ofInt IntKind.i64.bits 255).toNat ≤ 255 := Nat.le_trans Nat.and_le_right (by decide)
  rw [IntKind.wrap_i64]
  omega
theorem byte_tot (s0 : List Int) (hl : s0.length ≤ 9223372036854775807) (s1 s2 : Int) (h1 : 0 ≤ s1) : ∃ v t1 t2, spec_l1Byte.f s0 s1 s2 = some (v, t1, t2) ∧ 0 ≤ v ∧ v ≤ 255 ∧ 0 ≤ t1 := by
  unfold spec_l1Byte.f
  by_cases h : s1 < (s0.length : Int)
  · rw [if_pos h, if_pos h1]
    exact ⟨_, _, _, rfl, (and255 _).1, (and255 _).2, by rw [wrap_id (by omega) (by omega)]; omega⟩
  · rw [if_neg h]
    exact ⟨_, _, _, rfl, (and255 _).1, (and255 _).2, h1⟩
theorem below_tot (s0 : List Int) (hl : s0.length ≤ 9223372036854775807) (s1 s2 : Int) (h1 : 0 ≤ s1) (a : Int) (ha : a ≤ 256) : ∃ v t1 t2, spec_l1Below.f s0 s1 s2 a = some (v, t1, t2) ∧ 0 ≤ v ∧ (0 < a → v < a) ∧ 0 ≤ t1 := by
  unfold spec_l1Below.f
  by_cases h : a ≤ 0
  · rw [if_pos h]
    exact ⟨_, _, _, rfl, Int.le_refl _, fun h' => absurd h (by omega), h1⟩
  · rw [if_neg h, if_pos ha]
    obtain ⟨v, t1, t2, e, v0, v1, p⟩ := byte_tot s0 hl s1 s2 h1
    rw [e]
    simp only [Option.bind_some]
    rw [if_neg (by omega)]
    exact ⟨_, _, _, rfl, Int.tmod_nonneg _ v0, fun _ => by rw [Int.tmod_eq_emod_of_nonneg v0]; exact Int.emod_lt_of_pos _ (by omega), p⟩
theorem once_tot (s0 : List Int) (hl : s0.length ≤ 9223372036854775807) (s1 s2 : Int) (h1 : 0 ≤ s1) (a : Int) (ha : a ≤ 256) : ∃ v t1 t2, spec_l1Once.f s0 s1 s2 a = some (v, t1, t2) ∧ 0 ≤ t1 := by
  unfold spec_l1Once.f
  obtain ⟨v, t1, t2, e, _, _, p⟩ := below_tot s0 hl s1 s2 h1 a ha
  rw [e]
  exact ⟨_, _, _, rfl, p⟩
theorem l2Int_small (a : Int) (h0 : 0 ≤ a) (h1 : a ≤ 9) : ∃ s : ByteArray, s.size = 1 ∧ Ev (fun k => spec_l2Int.f k a) s := by
  refine ⟨strOfNums [(wrap64 (48 + a)) % 256] ++ (⟨#[]⟩ : ByteArray), ?_, ?_⟩
  · rw [ByteArray.size_append, strOfNums_size]; rfl
  · refine Ev.step (g := fun k => spec_l2Int.f k a) (f := fun _ => some (strOfNums [(wrap64 (48 + a)) % 256] ++ (⟨#[]⟩ : ByteArray))) (fun k => ?_) (Ev.now _)
    unfold spec_l2Int.f
    rw [spec_l2Int.l0, if_neg (by omega)]
    simp only [Option.bind_some]
    rw [if_pos (by rw [strOfNums_size]; show 1 + 0 ≤ 9223372036854775807; decide)]
def Tot {α : Type} (g : Nat → Option (α × Int × Int)) (Q : α → Prop) : Prop := ∃ a t1 t2, Ev g (a, t1, t2) ∧ 0 ≤ t1 ∧ Q a
theorem Tot.step {α : Type} {g f : Nat → Option (α × Int × Int)} {Q : α → Prop} (h : ∀ k, g (k + 1) = f k) (k : Tot f Q) : Tot g Q := by
  obtain ⟨a, t1, t2, e, p, q⟩ := k
  exact ⟨a, t1, t2, Ev.step h e, p, q⟩
theorem Tot.congr {α : Type} {g f : Nat → Option (α × Int × Int)} {Q : α → Prop} (h : ∀ k, g k = f k) (k : Tot f Q) : Tot g Q := by
  obtain ⟨a, t1, t2, e, p, q⟩ := k
  exact ⟨a, t1, t2, Ev.congr h e, p, q⟩
theorem Tot.now {α : Type} {Q : α → Prop} (a : α) (t1 t2 : Int) (h : 0 ≤ t1) (q : Q a) : Tot (fun _ => some (a, t1, t2)) Q := ⟨a, t1, t2, Ev.now _, h, q⟩
theorem Tot.once {α : Type} {s0 : List Int} (hl : s0.length ≤ 9223372036854775807) {s1 s2 : Int} (h1 : 0 ≤ s1) {a : Int} (ha : a ≤ 256) {f : Nat → (Bool × Int × Int) → Option (α × Int × Int)} {Q : α → Prop}
    (k : ∀ b t1 t2, 0 ≤ t1 → Tot (fun n => f n (b, t1, t2)) Q) : Tot (fun n => (spec_l1Once.f s0 s1 s2 a).bind (f n)) Q := by
  obtain ⟨v, t1, t2, e, p⟩ := once_tot s0 hl s1 s2 h1 a ha
  refine Tot.congr (fun n => ?_) (k v t1 t2 p)
  rw [e]; rfl
theorem Tot.below {α : Type} {s0 : List Int} (hl : s0.length ≤ 9223372036854775807) {s1 s2 : Int} (h1 : 0 ≤ s1) {a : Int} (ha : a ≤ 256) {f : Nat → (Int × Int × Int) → Option (α × Int × Int)} {Q : α → Prop}
    (k : ∀ v t1 t2, 0 ≤ v → (0 < a → v < a) → 0 ≤ t1 → Tot (fun n => f n (v, t1, t2)) Q) : Tot (fun n => (spec_l1Below.f s0 s1 s2 a).bind (f n)) Q := by
  obtain ⟨v, t1, t2, e, v0, v1, p⟩ := below_tot s0 hl s1 s2 h1 a ha
  refine Tot.congr (fun n => ?_) (k v t1 t2 v0 v1 p)
  rw [e]; rfl
theorem Tot.bind {α β : Type} {g : Nat → Option β} {b : β} (h : Ev g b) {f : Nat → β → Option (α × Int × Int)} {Q : α → Prop} (k : Tot (fun n => f n b) Q) : Tot (fun n => (g n).bind (f n)) Q := by
  obtain ⟨a, t1, t2, e, p, q⟩ := k
  exact ⟨a, t1, t2, Ev.bind h e, p, q⟩
theorem Tot.ite {α : Type} {c : Prop} [Decidable c] {f g : Nat → Option (α × Int × Int)} {Q : α → Prop} (h1 : c → Tot f Q) (h2 : ¬ c → Tot g Q) : Tot (fun n => if c then f n else g n) Q := by
  by_cases h : c
  · exact Tot.congr (fun n => if_pos h) (h1 h)
  · exact Tot.congr (fun n => if_neg h) (h2 h)
theorem drawNames_loop (s0 : List Int) (hl : s0.length ≤ 9223372036854775807) (x4 : List ByteArray) (h4 : x4.length ≤ 100) (d : Nat) : ∀ (i : Nat) (x3 : List ByteArray) (s1 s2 : Int), i + d = x4.length → x3.length ≤ i → 0 ≤ s1 →
    Tot (fun k => spec_l18DrawNames.l0 k x3 x4 (i : Int) s0 s1 s2) (fun r => r.length ≤ x4.length) := by
  induction d with
  | zero =>
    intro i x3 s1 s2 hi h3 h1
    exact Tot.step (f := fun _ => some (x3, s1, s2)) (fun k => by rw [spec_l18DrawNames.l0, if_neg (by omega)]) (Tot.now _ _ _ h1 (by omega))
  | succ d ih =>
    intro i x3 s1 s2 hi h3 h1
    have hw : wrap64 ((i : Int) + 1) = ((i + 1 : Nat) : Int) := by rw [wrap_id (by omega) (by omega)]; omega
    refine Tot.step (fun k => by rw [spec_l18DrawNames.l0, if_pos (by omega), hw]) (Tot.once hl h1 (by omega) (fun b t1 t2 p => ?_))
    refine Tot.ite (fun hb => ?_) (fun hb => ih (i + 1) x3 t1 t2 (by omega) (by omega) p)
    refine Tot.ite (fun _ => Tot.ite (fun _ => ?_) (fun h => absurd h (by omega))) (fun h => absurd h (by omega))
    exact ih (i + 1) _ t1 t2 (by omega) (by simp; omega) p
theorem drawNames_tot (s0 : List Int) (hl : s0.length ≤ 9223372036854775807) (s1 s2 : Int) (h1 : 0 ≤ s1) : Tot (fun k => spec_l18DrawNames.f k s0 s1 s2) (fun r => r.length ≤ 7) :=
  drawNames_loop s0 hl _ (by simp) 7 0 [] s1 s2 rfl (by simp) h1
theorem new_loop (l0 : List Int) (hl : l0.length ≤ 9223372036854775807) (d : Nat) : ∀ (i : Nat) (x3 : Int), i + d = l0.length → ∃ s2, Ev (fun k => spec_l1New.l0 k l0 x3 (i : Int)) (l0, 0, s2) := by
  induction d with
  | zero =>
    intro i x3 hi
    exact ⟨x3, Ev.step (f := fun _ => some (l0, 0, x3)) (fun k => by rw [spec_l1New.l0, if_neg (by omega)]) (Ev.now _)⟩
  | succ d ih =>
    intro i x3 hi
    have hw : wrap64 ((i : Int) + 1) = ((i + 1 : Nat) : Int) := by rw [wrap_id (by omega) (by omega)]; omega
    obtain ⟨s2, h⟩ := ih (i + 1) (Go.bits .and .i64 (wrap64 ((wrap64 ((wrap64 (x3 * 139)) + (wrap64 (rd l0 (i : Int))))) + 13)) 1073741823) (by omega)
    exact ⟨s2, Ev.step (fun k => by rw [spec_l1New.l0, if_pos (by omega), if_pos (by omega), hw]) h⟩
theorem new_tot (l0 : List Int) (hl : l0.length ≤ 9223372036854775807) : ∃ s2, Ev (fun k => spec_l1New.f k l0) (l0, 0, s2) := new_loop l0 hl l0.length 0 _ (by omega)
theorem j4_tot (s0 : List Int) (hl : s0.length ≤ 9223372036854775807) (x3 : List S32) (h3 : x3.length ≤ 100) (b : Bool) (hb : b = true → 0 < x3.length) (s1 s2 : Int) (h1 : 0 ≤ s1) : Tot (fun k => spec_l18Draw.j4 k x3 b s0 s1 s2) (fun r => r.length = x3.length) := by
  refine Tot.step (fun k => by rw [spec_l18Draw.j4]) ?_
  refine Tot.ite (fun hb' => ?_) (fun _ => Tot.now _ _ _ h1 rfl)
  have hp := hb hb'
  refine Tot.below hl h1 (by omega) (fun v t1 t2 v0 v1 p => ?_)
  have hv := v1 (by omega)
  refine Tot.ite (fun _ => Tot.ite (fun _ => ?_) (fun h => absurd hv h)) (fun h => absurd v0 h)
  refine Tot.below hl p (by omega) (fun v' t1 t2 v0' v1' p => ?_)
  refine Tot.ite (fun _ => Tot.now _ _ _ p (by simp)) (fun _ => ?_)
  refine Tot.ite (fun _ => Tot.now _ _ _ p (by simp)) (fun _ => ?_)
  refine Tot.ite (fun _ => Tot.now _ _ _ p (by simp)) (fun _ => ?_)
  refine Tot.ite (fun _ => ?_) (fun _ => Tot.now _ _ _ p rfl)
  refine Tot.below hl p (by omega) (fun v'' t1 t2 v0'' v1'' p => ?_)
  have h2 := v1'' (by omega)
  have hw : wrap64 (4000 + v'') = 4000 + v'' := wrap_id (by omega) (by omega)
  refine Tot.ite (fun _ => Tot.ite (fun _ => Tot.now _ _ _ p (by simp)) (fun h => absurd h ?_)) (fun h => absurd h ?_)
  · simp only [hw]; omega
  · simp only [hw]; omega
theorem inner_tot (s0 : List Int) (hl : s0.length ≤ 9223372036854775807) (x4 : List ByteArray) (h4 : x4.length ≤ 100) (i : Nat) (hi : i < x4.length) (Q : List S32 → Prop)
    (next : ∀ (x3 : List S32) (t1 t2 : Int), x3.length ≤ i + 1 → 0 ≤ t1 → Tot (fun k => spec_l18Draw.l0 k x3 x4 ((i + 1 : Nat) : Int) s0 t1 t2) Q) (x3 : List S32) (h3 : x3.length ≤ i) (f0 f3 : ByteArray) (f4 : Bool) (d : Nat) :
    ∀ (j : Nat) (f1 f2 : List ByteArray) (s1 s2 : Int), j + d = x4.length → f1.length ≤ j → f2.length ≤ j → 0 ≤ s1 → Tot (fun k => spec_l18Draw.l1 k x3 x4 (i : Int) (j : Int) s0 s1 s2 f0 f1 f2 f3 f4) Q := by
  induction d with
  | zero =>
    intro j f1 f2 s1 s2 hj g1 g2 h1
    have hw : wrap64 ((i : Int) + 1) = ((i + 1 : Nat) : Int) := by rw [wrap_id (by omega) (by omega)]; omega
    refine Tot.step (fun k => by rw [spec_l18Draw.l1, if_neg (by omega), hw]) ?_
    exact Tot.ite (fun _ => next _ _ _ (by simp; omega) h1) (fun h => absurd h (by omega))
  | succ d ih =>
    intro j f1 f2 s1 s2 hj g1 g2 h1
    have hwj : wrap64 ((j : Int) + 1) = ((j + 1 : Nat) : Int) := by rw [wrap_id (by omega) (by omega)]; omega
    have third : ∀ (f1 : List ByteArray) (s1 s2 : Int), f1.length ≤ j + 1 → 0 ≤ s1 → Tot (fun k => spec_l18Draw.j3 k x3 x4 (i : Int) (j : Int) s0 s1 s2 f0 f1 f2 f3 f4) Q := by
      intro f1 s1 s2 g1 h1
      refine Tot.step (fun k => by rw [spec_l18Draw.j3, hwj]) (Tot.once hl h1 (by omega) (fun b t1 t2 p => ?_))
      have c0 : (0 : Int) ≤ (j : Int) := by omega
      have c1 : (j : Int) < (x4.length : Int) := by omega
      have c2 : f2.length < 8796093022208 := by omega
      simp only [if_pos c0, if_pos c1, if_pos c2]
      refine Tot.ite (fun _ => ?_) (fun _ => ?_)
      · refine Tot.ite (fun _ => ?_) (fun _ => ?_)
        · exact ih (j + 1) _ _ _ _ (by omega) g1 (by simp; omega) p
        · refine Tot.once hl p (by omega) (fun b t1 t2 p => ?_)
          refine Tot.ite (fun _ => ?_) (fun _ => ?_)
          · exact ih (j + 1) _ _ _ _ (by omega) g1 (by simp; omega) p
          · exact ih (j + 1) _ _ _ _ (by omega) g1 (by omega) p
      · exact ih (j + 1) _ _ _ _ (by omega) g1 (by omega) p
    have second : ∀ (b : Bool) (s1 s2 : Int), 0 ≤ s1 → Tot (fun k => spec_l18Draw.j2 k x3 x4 (i : Int) (j : Int) b s0 s1 s2 f0 f1 f2 f3 f4) Q := by
      intro b s1 s2 h1
      refine Tot.step (fun k => by rw [spec_l18Draw.j2]) ?_
      have c0 : (0 : Int) ≤ (j : Int) := by omega
      have c1 : (j : Int) < (x4.length : Int) := by omega
      have c2 : f1.length < 8796093022208 := by omega
      simp only [if_pos c0, if_pos c1, if_pos c2]
      refine Tot.ite (fun _ => ?_) (fun _ => ?_)
      · exact third _ _ _ (by simp; omega) h1
      · exact third _ _ _ (by omega) h1
    refine Tot.step (fun k => by rw [spec_l18Draw.l1, if_pos (by omega)]) (Tot.once hl h1 (by omega) (fun b t1 t2 p => ?_))
    refine Tot.ite (fun _ => Tot.ite (fun _ => second _ _ _ p) (fun _ => ?_)) (fun _ => second _ _ _ p)
    exact Tot.once hl p (by omega) (fun b t1 t2 p => second _ _ _ p)
theorem outer_tot (s0 : List Int) (hl : s0.length ≤ 9223372036854775807) (x4 : List ByteArray) (h4 : x4.length ≤ 100) (d : Nat) :
    ∀ (i : Nat) (x3 : List S32) (s1 s2 : Int), i + d = x4.length → x3.length ≤ i → 0 ≤ s1 → Tot (fun k => spec_l18Draw.l0 k x3 x4 (i : Int) s0 s1 s2) (fun r => r.length ≤ x4.length) := by
  induction d with
  | zero =>
    intro i x3 s1 s2 hi h3 h1
    refine Tot.step (fun k => by rw [spec_l18Draw.l0, if_neg (by omega)]) (Tot.once hl h1 (by omega) (fun b t1 t2 p => ?_))
    have fin : ∀ b, (b = true → 0 < x3.length) → Tot (fun k => spec_l18Draw.j4 k x3 b s0 t1 t2) (fun r => r.length ≤ x4.length) := fun b hb => by
      obtain ⟨a, u1, u2, e, p, q⟩ := j4_tot s0 hl x3 (by omega) b hb t1 t2 p
      exact ⟨a, u1, u2, e, p, by omega⟩
    exact Tot.ite (fun _ => fin _ (fun h => by have := of_decide_eq_true h; omega)) (fun _ => fin _ (fun h => by cases h))
  | succ d ih =>
    intro i x3 s1 s2 hi h3 h1
    have hw : wrap64 ((i : Int) + 1) = ((i + 1 : Nat) : Int) := by rw [wrap_id (by omega) (by omega)]; omega
    refine Tot.step (fun k => by rw [spec_l18Draw.l0, if_pos (by omega), hw]) (Tot.once hl h1 (by omega) (fun b t1 t2 p => ?_))
    refine Tot.ite (fun _ => ih (i + 1) x3 _ _ (by omega) (by omega) p) (fun _ => Tot.ite (fun _ => ?_) (fun h => absurd h (by omega)))
    refine Tot.below hl p (by omega) (fun v t1 t2 v0 v1 p => ?_)
    have hv := v1 (by omega)
    obtain ⟨s, hs, es⟩ := l2Int_small v v0 (by omega)
    refine Tot.bind es ?_
    refine Tot.ite (fun _ => ?_) (fun h => absurd h (by rw [hs]; omega))
    refine Tot.once hl p (by omega) (fun b t1 t2 p => ?_)
    exact inner_tot s0 hl x4 h4 i (by omega) _ (fun x3 t1 t2 h3 h1 => ih (i + 1) x3 t1 t2 (by omega) h3 h1) x3 h3 _ _ _ x4.length 0 [] [] t1 t2 (by omega) (by simp) (by simp) p
theorem draw_tot (s0 : List Int) (hl : s0.length ≤ 9223372036854775807) (s1 s2 : Int) (h1 : 0 ≤ s1) : Tot (fun k => spec_l18Draw.f k s0 s1 s2) (fun r => r.length ≤ 6) :=
  outer_tot s0 hl _ (by simp) 6 0 [] s1 s2 rfl (by simp) h1
end Go.Proofs.Ytnjmhlhlmokjnaa.G
