/-
  Part 3 of the texts of this claim: GLawsEqStep, GLawsEqStepS, GLawsToByteS, XExPure, XMarkSteps, XExRead, XOpenBytes.
-/
import Derived.Test.YthofgkmfllccnaaRd2
namespace Go.Proofs.Ythofgkmfllccnaa.G
open Go.RowKit Go.Proofs.YthofgkmfllccnaaW.PrintWords Go.Proofs.YthofgkmfllccnaaW.PrintLast Go.Proofs.YthofgkmfllccnaaW.PrintMore
attribute [local go_sem] max2_int min2_int max_two min_two max_three min_three max_four min_four
set_option linter.unusedVariables false
set_option linter.unusedSimpArgs false
def laws_eqStep.f (k : Nat) (a0_0 : Int) (a0_1 : Int) (a0_2 : Int) (l0_3 : List Int) (a1_0 : Int) (a1_1 : Int) (a1_2 : Int) (l1_3 : List Int) : Option (Bool) := if a0_0 = a1_0 then (if a0_1 = a1_1 then (if a0_2 = a1_2 then ((laws_eqByteS.f k l0_3 l1_3).bind fun t168 => (if t168 = true then (some true) else (some false))) else (some false)) else (some false)) else (some false)
set_option maxHeartbeats 8000000 in
set_option maxRecDepth 100000 in
theorem laws_eqStep.calls (k : Nat) (a0_0 : Int) (a0_1 : Int) (a0_2 : Int) (A0_3 : Option Addr) (c0_3 : Nat) (l0_3 : List Int) (a1_0 : Int) (a1_1 : Int) (a1_2 : Int) (A1_3 : Option Addr) (c1_3 : Nat) (l1_3 : List Int) (r : Bool) (w : World) (hr0_3 : Kd.C (Kd.int .u8) w A0_3 l0_3.length l0_3) (hc0_3 : l0_3.length ≤ c0_3) (hr1_3 : Kd.C (Kd.int .u8) w A1_3 l1_3.length l1_3) (hc1_3 : l1_3.length ≤ c1_3) (h : laws_eqStep.f k a0_0 a0_1 a0_2 l0_3 a1_0 a1_1 a1_2 l1_3 = some r) :
    Calls Try.prog 27 #[.agg #[.int .i64 a0_0, .int .i64 a0_1, .int .i64 a0_2, .slice A0_3 l0_3.length c0_3], .agg #[.int .i64 a1_0, .int .i64 a1_1, .int .i64 a1_2, .slice A1_3 l1_3.length c1_3]] w fun e w' => e = .returned (.bool r) ∧ Below w.heap.size w w' := by
  have hu43 := Try.underlying43
  have HR0_3 := Aside0.mk hr0_3
  have HC0_3 := Aside0.mk hc0_3
  clear hr0_3 hc0_3
  have HR1_3 := Aside0.mk hr1_3
  have HC1_3 := Aside0.mk hc1_3
  clear hr1_3 hc1_3
  have HB := Aside0.mk (Below.refl w.heap.size w)
  have H : (if a0_0 = a1_0 then (if a0_1 = a1_1 then (if a0_2 = a1_2 then ((laws_eqByteS.f k l0_3 l1_3).bind fun t168 => (if t168 = true then (some true) else (some false))) else (some false)) else (some false)) else (some false)) = some r := h
  clear h
  by_cases c3 : a0_0 = a1_0
  · rw [if_pos c3] at H
    have c3b0 : (a0_0 == a1_0) = true := beq_iff_eq.mpr c3
    have c3b1 : (a0_0 != a1_0) = false := bne_eq_false_iff_eq.mpr c3
    clear c3
    by_cases c4 : a0_1 = a1_1
    · rw [if_pos c4] at H
      have c4b0 : (a0_1 == a1_1) = true := beq_iff_eq.mpr c4
      have c4b1 : (a0_1 != a1_1) = false := bne_eq_false_iff_eq.mpr c4
      clear c4
      by_cases c5 : a0_2 = a1_2
      · rw [if_pos c5] at H
        have c5b0 : (a0_2 == a1_2) = true := beq_iff_eq.mpr c5
        have c5b1 : (a0_2 != a1_2) = false := bne_eq_false_iff_eq.mpr c5
        clear c5
        replace H := Option.bind_eq_some_iff.mp H
        obtain ⟨t168, A60, H⟩ := H
        replace H : (if t168 = true then (some true) else (some false)) = some r := H
        have A6 := Aside0.mk A60
        clear A60
        by_cases c7 : t168 = true
        · subst c7
          have H1 : (some true) = some r := by rw [if_pos rfl] at H; exact H
          clear H
          have H := H1
          clear H1
          obtain rfl := Option.some.inj H
          go_enter Try.func27, Try.ntmps27
          go_wp2_with (first | ((with_reducible refine gate_dst (N := 2) rfl ?_); refine box_event ?hg (N := 2) ?hd (cs := #[.int .i64 a0_0, .int .i64 a0_1, .int .i64 a0_2, .slice A0_3 l0_3.length c0_3]) (t := 43) ?hr ?_; (case hd => rfl); (case hg => rfl); (case hr => first | (go_simp; done) | (go_simp; rfl)); intro gb166 hg w8 hbox hb; have n0_ := Aside0.mk (below_step (by repeat (first | (with_reducible first | exact HB.out | apply below_alloc | apply pw_below_drewN | apply below_drew1) | exact HB.out)) hb); have n1_ := Aside0.mk (hbox); have n2_ := Aside0.mk ((by rw [hg]; exact (below_size (by repeat (first | (with_reducible first | exact HB.out | apply below_alloc | apply pw_below_drewN | apply below_drew1) | exact HB.out))) : w.heap.size ≤ gb166)); have n3_ := Aside0.mk ((by rw [hg]; exact (below_size (by repeat (first | (with_reducible first | exact HB.out | apply below_alloc | apply pw_below_drewN | apply below_drew1) | exact HB.out))) : w.heap.size ≤ gb166)); clear HB; have HB := n0_; have BK166 := n1_; have GW166 := n2_; have GE166 := n3_; clear n0_ n1_ n2_ n3_; clear hb hbox hg) | ((with_reducible refine gate_dst (N := 3) rfl ?_); refine box_event ?hg (N := 3) ?hd (cs := #[.int .i64 a1_0, .int .i64 a1_1, .int .i64 a1_2, .slice A1_3 l1_3.length c1_3]) (t := 43) ?hr ?_; (case hd => rfl); (case hg => rfl); (case hr => first | (go_simp; done) | (go_simp; rfl)); intro gb167 hg w9 hbox hb; have n0_ := Aside0.mk (blk_below (g := gb166) (o := .cells #[.int .i64 a0_0, .int .i64 a0_1, .int .i64 a0_2, .slice A0_3 l0_3.length c0_3] 43 (0, 0)) (by (with_reducible repeat (first | refine blk_drewN ?_ _ | refine blk_drew ?_ | refine blk_alloc ?_ _)); exact BK166.out) hb); have n1_ := Aside0.mk (below_step (by repeat (first | (with_reducible first | exact HB.out | apply below_alloc | apply pw_below_drewN | apply below_drew1 | refine below_set ?_ GE166.out) | exact HB.out)) hb); have n2_ := Aside0.mk (hbox); have n3_ := Aside0.mk ((by rw [hg]; exact (below_size (by repeat (first | (with_reducible first | exact HB.out | apply below_alloc | apply pw_below_drewN | apply below_drew1 | refine below_set ?_ GE166.out) | exact HB.out))) : w.heap.size ≤ gb167)); have n4_ := Aside0.mk ((by rw [hg]; exact (below_size (by repeat (first | (with_reducible first | exact HB.out | apply below_alloc | apply pw_below_drewN | apply below_drew1 | refine below_set ?_ GE166.out) | exact HB.out))) : w.heap.size ≤ gb167)); have n5_ := Aside0.mk ((by rw [hg]; exact Nat.ne_of_lt (blk_lt (g := gb166) (o := .cells #[.int .i64 a0_0, .int .i64 a0_1, .int .i64 a0_2, .slice A0_3 l0_3.length c0_3] 43 (0, 0)) (by (with_reducible repeat (first | refine blk_drewN ?_ _ | refine blk_drew ?_ | refine blk_alloc ?_ _)); exact BK166.out)) : gb166 ≠ gb167)); have n6_ := Aside0.mk ((by rw [hg]; exact Nat.ne_of_gt (blk_lt (g := gb166) (o := .cells #[.int .i64 a0_0, .int .i64 a0_1, .int .i64 a0_2, .slice A0_3 l0_3.length c0_3] 43 (0, 0)) (by (with_reducible repeat (first | refine blk_drewN ?_ _ | refine blk_drew ?_ | refine blk_alloc ?_ _)); exact BK166.out)) : gb167 ≠ gb166)); clear BK166; clear HB; have BK166 := n0_; have HB := n1_; have BK167 := n2_; have GW167 := n3_; have GE167 := n4_; have NB166_167 := n5_; have NB167_166 := n6_; clear n0_ n1_ n2_ n3_ n4_ n5_ n6_; clear hb hbox hg; have hnb10 := NB166_167.out; have hnc10 := NB167_166.out; have hcz11_0 : w9.cell? ⟨gb166, 0, none⟩ = some (.int .i64 a0_0) := (blk_cell BK166.out 0).trans rfl; have hcz11_1 : w9.cell? ⟨gb166, 1, none⟩ = some (.int .i64 a0_1) := (blk_cell BK166.out 1).trans rfl; have hcz11_2 : w9.cell? ⟨gb166, 2, none⟩ = some (.int .i64 a0_2) := (blk_cell BK166.out 2).trans rfl; have hcz11_3 : w9.cell? ⟨gb166, 3, none⟩ = some (.slice A0_3 l0_3.length c0_3) := (blk_cell BK166.out 3).trans rfl; have hfz11_0 := blk_frozen BK166.out 0; have hfz11_1 := blk_frozen BK166.out 1; have hfz11_2 := blk_frozen BK166.out 2; have hfz11_3 := blk_frozen BK166.out 3; have hcz12_0 : w9.cell? ⟨gb167, 0, none⟩ = some (.int .i64 a1_0) := (blk_cell BK167.out 0).trans rfl; have hcz12_1 : w9.cell? ⟨gb167, 1, none⟩ = some (.int .i64 a1_1) := (blk_cell BK167.out 1).trans rfl; have hcz12_2 : w9.cell? ⟨gb167, 2, none⟩ = some (.int .i64 a1_2) := (blk_cell BK167.out 2).trans rfl; have hcz12_3 : w9.cell? ⟨gb167, 3, none⟩ = some (.slice A1_3 l1_3.length c1_3) := (blk_cell BK167.out 3).trans rfl; have hfz12_0 := blk_frozen BK167.out 0; have hfz12_1 := blk_frozen BK167.out 1; have hfz12_2 := blk_frozen BK167.out 2; have hfz12_3 := blk_frozen BK167.out 3) | ((with_reducible refine gate_callee (f := 9) rfl ?_); refine goesL_ (some 24) rfl rfl Try.func9 (by kernel_rfl) rfl #[.slice A0_3 l0_3.length c0_3, .slice A1_3 l1_3.length c1_3] rfl (by (try simp only [List.map_toArray, List.map_cons, List.map_nil]); first | done | rfl | (simp only [List.length_drop, List.length_take]; rfl)) ?_; (with_reducible refine (laws_eqByteS.calls k _ _ l0_3 _ _ l1_3 true _ ?side1 ?side2 ?side3 ?side4 A6.out).mono ?_); (case side1 => repeat (first | exact (Kd.C_below HR0_3.out HB.out) | (with_reducible refine Kd.C_alloc ?_ _) | (with_reducible refine Kd.C_drewN ?_ _) | (with_reducible refine Kd.C_drew ?_))); (case side2 => exact HC0_3.out); (case side3 => repeat (first | exact (Kd.C_below HR1_3.out HB.out) | (with_reducible refine Kd.C_alloc ?_ _) | (with_reducible refine Kd.C_drewN ?_ _) | (with_reducible refine Kd.C_drew ?_))); (case side4 => exact HC1_3.out); rintro e w' ⟨rfl, ⟨nd, rfl⟩⟩; refine ⟨_, rfl, ?_⟩))
          go_ret
          exact ⟨by first | rfl | (simp [errW_none, errW_some] <;> rfl) | (simp [*, errW_none, errW_some] <;> rfl), by repeat (first | (with_reducible first | exact HB.out | apply below_alloc | apply pw_below_drewN | apply below_drew1 | refine below_set ?_ GE166.out | refine below_set ?_ GE167.out) | exact HB.out)⟩
        · replace c7 := Bool.eq_false_iff.mpr c7
          subst c7
          have H1 : (some false) = some r := by rw [if_neg (show ¬ (false = true) by decide)] at H; exact H
          clear H
          have H := H1
          clear H1
          obtain rfl := Option.some.inj H
          go_enter Try.func27, Try.ntmps27
          go_wp2_with (first | ((with_reducible refine gate_dst (N := 2) rfl ?_); refine box_event ?hg (N := 2) ?hd (cs := #[.int .i64 a0_0, .int .i64 a0_1, .int .i64 a0_2, .slice A0_3 l0_3.length c0_3]) (t := 43) ?hr ?_; (case hd => rfl); (case hg => rfl); (case hr => first | (go_simp; done) | (go_simp; rfl)); intro gb166 hg w13 hbox hb; have n0_ := Aside0.mk (below_step (by repeat (first | (with_reducible first | exact HB.out | apply below_alloc | apply pw_below_drewN | apply below_drew1) | exact HB.out)) hb); have n1_ := Aside0.mk (hbox); have n2_ := Aside0.mk ((by rw [hg]; exact (below_size (by repeat (first | (with_reducible first | exact HB.out | apply below_alloc | apply pw_below_drewN | apply below_drew1) | exact HB.out))) : w.heap.size ≤ gb166)); have n3_ := Aside0.mk ((by rw [hg]; exact (below_size (by repeat (first | (with_reducible first | exact HB.out | apply below_alloc | apply pw_below_drewN | apply below_drew1) | exact HB.out))) : w.heap.size ≤ gb166)); clear HB; have HB := n0_; have BK166 := n1_; have GW166 := n2_; have GE166 := n3_; clear n0_ n1_ n2_ n3_; clear hb hbox hg) | ((with_reducible refine gate_dst (N := 3) rfl ?_); refine box_event ?hg (N := 3) ?hd (cs := #[.int .i64 a1_0, .int .i64 a1_1, .int .i64 a1_2, .slice A1_3 l1_3.length c1_3]) (t := 43) ?hr ?_; (case hd => rfl); (case hg => rfl); (case hr => first | (go_simp; done) | (go_simp; rfl)); intro gb167 hg w14 hbox hb; have n0_ := Aside0.mk (blk_below (g := gb166) (o := .cells #[.int .i64 a0_0, .int .i64 a0_1, .int .i64 a0_2, .slice A0_3 l0_3.length c0_3] 43 (0, 0)) (by (with_reducible repeat (first | refine blk_drewN ?_ _ | refine blk_drew ?_ | refine blk_alloc ?_ _)); exact BK166.out) hb); have n1_ := Aside0.mk (below_step (by repeat (first | (with_reducible first | exact HB.out | apply below_alloc | apply pw_below_drewN | apply below_drew1 | refine below_set ?_ GE166.out) | exact HB.out)) hb); have n2_ := Aside0.mk (hbox); have n3_ := Aside0.mk ((by rw [hg]; exact (below_size (by repeat (first | (with_reducible first | exact HB.out | apply below_alloc | apply pw_below_drewN | apply below_drew1 | refine below_set ?_ GE166.out) | exact HB.out))) : w.heap.size ≤ gb167)); have n4_ := Aside0.mk ((by rw [hg]; exact (below_size (by repeat (first | (with_reducible first | exact HB.out | apply below_alloc | apply pw_below_drewN | apply below_drew1 | refine below_set ?_ GE166.out) | exact HB.out))) : w.heap.size ≤ gb167)); have n5_ := Aside0.mk ((by rw [hg]; exact Nat.ne_of_lt (blk_lt (g := gb166) (o := .cells #[.int .i64 a0_0, .int .i64 a0_1, .int .i64 a0_2, .slice A0_3 l0_3.length c0_3] 43 (0, 0)) (by (with_reducible repeat (first | refine blk_drewN ?_ _ | refine blk_drew ?_ | refine blk_alloc ?_ _)); exact BK166.out)) : gb166 ≠ gb167)); have n6_ := Aside0.mk ((by rw [hg]; exact Nat.ne_of_gt (blk_lt (g := gb166) (o := .cells #[.int .i64 a0_0, .int .i64 a0_1, .int .i64 a0_2, .slice A0_3 l0_3.length c0_3] 43 (0, 0)) (by (with_reducible repeat (first | refine blk_drewN ?_ _ | refine blk_drew ?_ | refine blk_alloc ?_ _)); exact BK166.out)) : gb167 ≠ gb166)); clear BK166; clear HB; have BK166 := n0_; have HB := n1_; have BK167 := n2_; have GW167 := n3_; have GE167 := n4_; have NB166_167 := n5_; have NB167_166 := n6_; clear n0_ n1_ n2_ n3_ n4_ n5_ n6_; clear hb hbox hg; have hnb15 := NB166_167.out; have hnc15 := NB167_166.out; have hcz16_0 : w14.cell? ⟨gb166, 0, none⟩ = some (.int .i64 a0_0) := (blk_cell BK166.out 0).trans rfl; have hcz16_1 : w14.cell? ⟨gb166, 1, none⟩ = some (.int .i64 a0_1) := (blk_cell BK166.out 1).trans rfl; have hcz16_2 : w14.cell? ⟨gb166, 2, none⟩ = some (.int .i64 a0_2) := (blk_cell BK166.out 2).trans rfl; have hcz16_3 : w14.cell? ⟨gb166, 3, none⟩ = some (.slice A0_3 l0_3.length c0_3) := (blk_cell BK166.out 3).trans rfl; have hfz16_0 := blk_frozen BK166.out 0; have hfz16_1 := blk_frozen BK166.out 1; have hfz16_2 := blk_frozen BK166.out 2; have hfz16_3 := blk_frozen BK166.out 3; have hcz17_0 : w14.cell? ⟨gb167, 0, none⟩ = some (.int .i64 a1_0) := (blk_cell BK167.out 0).trans rfl; have hcz17_1 : w14.cell? ⟨gb167, 1, none⟩ = some (.int .i64 a1_1) := (blk_cell BK167.out 1).trans rfl; have hcz17_2 : w14.cell? ⟨gb167, 2, none⟩ = some (.int .i64 a1_2) := (blk_cell BK167.out 2).trans rfl; have hcz17_3 : w14.cell? ⟨gb167, 3, none⟩ = some (.slice A1_3 l1_3.length c1_3) := (blk_cell BK167.out 3).trans rfl; have hfz17_0 := blk_frozen BK167.out 0; have hfz17_1 := blk_frozen BK167.out 1; have hfz17_2 := blk_frozen BK167.out 2; have hfz17_3 := blk_frozen BK167.out 3) | ((with_reducible refine gate_callee (f := 9) rfl ?_); refine goesL_ (some 24) rfl rfl Try.func9 (by kernel_rfl) rfl #[.slice A0_3 l0_3.length c0_3, .slice A1_3 l1_3.length c1_3] rfl (by (try simp only [List.map_toArray, List.map_cons, List.map_nil]); first | done | rfl | (simp only [List.length_drop, List.length_take]; rfl)) ?_; (with_reducible refine (laws_eqByteS.calls k _ _ l0_3 _ _ l1_3 false _ ?side1 ?side2 ?side3 ?side4 A6.out).mono ?_); (case side1 => repeat (first | exact (Kd.C_below HR0_3.out HB.out) | (with_reducible refine Kd.C_alloc ?_ _) | (with_reducible refine Kd.C_drewN ?_ _) | (with_reducible refine Kd.C_drew ?_))); (case side2 => exact HC0_3.out); (case side3 => repeat (first | exact (Kd.C_below HR1_3.out HB.out) | (with_reducible refine Kd.C_alloc ?_ _) | (with_reducible refine Kd.C_drewN ?_ _) | (with_reducible refine Kd.C_drew ?_))); (case side4 => exact HC1_3.out); rintro e w' ⟨rfl, ⟨nd, rfl⟩⟩; refine ⟨_, rfl, ?_⟩))
          go_ret
          exact ⟨by first | rfl | (simp [errW_none, errW_some] <;> rfl) | (simp [*, errW_none, errW_some] <;> rfl), by repeat (first | (with_reducible first | exact HB.out | apply below_alloc | apply pw_below_drewN | apply below_drew1 | refine below_set ?_ GE166.out | refine below_set ?_ GE167.out) | exact HB.out)⟩
      · rw [if_neg c5] at H
        have c5b0 : (a0_2 == a1_2) = false := beq_eq_false_iff_ne.mpr c5
        have c5b1 : (a0_2 != a1_2) = true := bne_iff_ne.mpr c5
        obtain rfl := Option.some.inj H
        go_enter Try.func27, Try.ntmps27
        go_wp2_with (first | ((with_reducible refine gate_dst (N := 2) rfl ?_); refine box_event ?hg (N := 2) ?hd (cs := #[.int .i64 a0_0, .int .i64 a0_1, .int .i64 a0_2, .slice A0_3 l0_3.length c0_3]) (t := 43) ?hr ?_; (case hd => rfl); (case hg => rfl); (case hr => first | (go_simp; done) | (go_simp; rfl)); intro gb166 hg w18 hbox hb; have n0_ := Aside0.mk (below_step (by repeat (first | (with_reducible first | exact HB.out | apply below_alloc | apply pw_below_drewN | apply below_drew1) | exact HB.out)) hb); have n1_ := Aside0.mk (hbox); have n2_ := Aside0.mk ((by rw [hg]; exact (below_size (by repeat (first | (with_reducible first | exact HB.out | apply below_alloc | apply pw_below_drewN | apply below_drew1) | exact HB.out))) : w.heap.size ≤ gb166)); have n3_ := Aside0.mk ((by rw [hg]; exact (below_size (by repeat (first | (with_reducible first | exact HB.out | apply below_alloc | apply pw_below_drewN | apply below_drew1) | exact HB.out))) : w.heap.size ≤ gb166)); clear HB; have HB := n0_; have BK166 := n1_; have GW166 := n2_; have GE166 := n3_; clear n0_ n1_ n2_ n3_; clear hb hbox hg) | ((with_reducible refine gate_dst (N := 3) rfl ?_); refine box_event ?hg (N := 3) ?hd (cs := #[.int .i64 a1_0, .int .i64 a1_1, .int .i64 a1_2, .slice A1_3 l1_3.length c1_3]) (t := 43) ?hr ?_; (case hd => rfl); (case hg => rfl); (case hr => first | (go_simp; done) | (go_simp; rfl)); intro gb167 hg w19 hbox hb; have n0_ := Aside0.mk (blk_below (g := gb166) (o := .cells #[.int .i64 a0_0, .int .i64 a0_1, .int .i64 a0_2, .slice A0_3 l0_3.length c0_3] 43 (0, 0)) (by (with_reducible repeat (first | refine blk_drewN ?_ _ | refine blk_drew ?_ | refine blk_alloc ?_ _)); exact BK166.out) hb); have n1_ := Aside0.mk (below_step (by repeat (first | (with_reducible first | exact HB.out | apply below_alloc | apply pw_below_drewN | apply below_drew1 | refine below_set ?_ GE166.out) | exact HB.out)) hb); have n2_ := Aside0.mk (hbox); have n3_ := Aside0.mk ((by rw [hg]; exact (below_size (by repeat (first | (with_reducible first | exact HB.out | apply below_alloc | apply pw_below_drewN | apply below_drew1 | refine below_set ?_ GE166.out) | exact HB.out))) : w.heap.size ≤ gb167)); have n4_ := Aside0.mk ((by rw [hg]; exact (below_size (by repeat (first | (with_reducible first | exact HB.out | apply below_alloc | apply pw_below_drewN | apply below_drew1 | refine below_set ?_ GE166.out) | exact HB.out))) : w.heap.size ≤ gb167)); have n5_ := Aside0.mk ((by rw [hg]; exact Nat.ne_of_lt (blk_lt (g := gb166) (o := .cells #[.int .i64 a0_0, .int .i64 a0_1, .int .i64 a0_2, .slice A0_3 l0_3.length c0_3] 43 (0, 0)) (by (with_reducible repeat (first | refine blk_drewN ?_ _ | refine blk_drew ?_ | refine blk_alloc ?_ _)); exact BK166.out)) : gb166 ≠ gb167)); have n6_ := Aside0.mk ((by rw [hg]; exact Nat.ne_of_gt (blk_lt (g := gb166) (o := .cells #[.int .i64 a0_0, .int .i64 a0_1, .int .i64 a0_2, .slice A0_3 l0_3.length c0_3] 43 (0, 0)) (by (with_reducible repeat (first | refine blk_drewN ?_ _ | refine blk_drew ?_ | refine blk_alloc ?_ _)); exact BK166.out)) : gb167 ≠ gb166)); clear BK166; clear HB; have BK166 := n0_; have HB := n1_; have BK167 := n2_; have GW167 := n3_; have GE167 := n4_; have NB166_167 := n5_; have NB167_166 := n6_; clear n0_ n1_ n2_ n3_ n4_ n5_ n6_; clear hb hbox hg; have hnb20 := NB166_167.out; have hnc20 := NB167_166.out; have hcz21_0 : w19.cell? ⟨gb166, 0, none⟩ = some (.int .i64 a0_0) := (blk_cell BK166.out 0).trans rfl; have hcz21_1 : w19.cell? ⟨gb166, 1, none⟩ = some (.int .i64 a0_1) := (blk_cell BK166.out 1).trans rfl; have hcz21_2 : w19.cell? ⟨gb166, 2, none⟩ = some (.int .i64 a0_2) := (blk_cell BK166.out 2).trans rfl; have hcz21_3 : w19.cell? ⟨gb166, 3, none⟩ = some (.slice A0_3 l0_3.length c0_3) := (blk_cell BK166.out 3).trans rfl; have hfz21_0 := blk_frozen BK166.out 0; have hfz21_1 := blk_frozen BK166.out 1; have hfz21_2 := blk_frozen BK166.out 2; have hfz21_3 := blk_frozen BK166.out 3; have hcz22_0 : w19.cell? ⟨gb167, 0, none⟩ = some (.int .i64 a1_0) := (blk_cell BK167.out 0).trans rfl; have hcz22_1 : w19.cell? ⟨gb167, 1, none⟩ = some (.int .i64 a1_1) := (blk_cell BK167.out 1).trans rfl; have hcz22_2 : w19.cell? ⟨gb167, 2, none⟩ = some (.int .i64 a1_2) := (blk_cell BK167.out 2).trans rfl; have hcz22_3 : w19.cell? ⟨gb167, 3, none⟩ = some (.slice A1_3 l1_3.length c1_3) := (blk_cell BK167.out 3).trans rfl; have hfz22_0 := blk_frozen BK167.out 0; have hfz22_1 := blk_frozen BK167.out 1; have hfz22_2 := blk_frozen BK167.out 2; have hfz22_3 := blk_frozen BK167.out 3))
        go_ret
        exact ⟨by first | rfl | (simp [errW_none, errW_some] <;> rfl) | (simp [*, errW_none, errW_some] <;> rfl), by repeat (first | (with_reducible first | exact HB.out | apply below_alloc | apply pw_below_drewN | apply below_drew1 | refine below_set ?_ GE166.out | refine below_set ?_ GE167.out) | exact HB.out)⟩
    · rw [if_neg c4] at H
      have c4b0 : (a0_1 == a1_1) = false := beq_eq_false_iff_ne.mpr c4
      have c4b1 : (a0_1 != a1_1) = true := bne_iff_ne.mpr c4
      obtain rfl := Option.some.inj H
      go_enter Try.func27, Try.ntmps27
      go_wp2_with (first | ((with_reducible refine gate_dst (N := 2) rfl ?_); refine box_event ?hg (N := 2) ?hd (cs := #[.int .i64 a0_0, .int .i64 a0_1, .int .i64 a0_2, .slice A0_3 l0_3.length c0_3]) (t := 43) ?hr ?_; (case hd => rfl); (case hg => rfl); (case hr => first | (go_simp; done) | (go_simp; rfl)); intro gb166 hg w23 hbox hb; have n0_ := Aside0.mk (below_step (by repeat (first | (with_reducible first | exact HB.out | apply below_alloc | apply pw_below_drewN | apply below_drew1) | exact HB.out)) hb); have n1_ := Aside0.mk (hbox); have n2_ := Aside0.mk ((by rw [hg]; exact (below_size (by repeat (first | (with_reducible first | exact HB.out | apply below_alloc | apply pw_below_drewN | apply below_drew1) | exact HB.out))) : w.heap.size ≤ gb166)); have n3_ := Aside0.mk ((by rw [hg]; exact (below_size (by repeat (first | (with_reducible first | exact HB.out | apply below_alloc | apply pw_below_drewN | apply below_drew1) | exact HB.out))) : w.heap.size ≤ gb166)); clear HB; have HB := n0_; have BK166 := n1_; have GW166 := n2_; have GE166 := n3_; clear n0_ n1_ n2_ n3_; clear hb hbox hg) | ((with_reducible refine gate_dst (N := 3) rfl ?_); refine box_event ?hg (N := 3) ?hd (cs := #[.int .i64 a1_0, .int .i64 a1_1, .int .i64 a1_2, .slice A1_3 l1_3.length c1_3]) (t := 43) ?hr ?_; (case hd => rfl); (case hg => rfl); (case hr => first | (go_simp; done) | (go_simp; rfl)); intro gb167 hg w24 hbox hb; have n0_ := Aside0.mk (blk_below (g := gb166) (o := .cells #[.int .i64 a0_0, .int .i64 a0_1, .int .i64 a0_2, .slice A0_3 l0_3.length c0_3] 43 (0, 0)) (by (with_reducible repeat (first | refine blk_drewN ?_ _ | refine blk_drew ?_ | refine blk_alloc ?_ _)); exact BK166.out) hb); have n1_ := Aside0.mk (below_step (by repeat (first | (with_reducible first | exact HB.out | apply below_alloc | apply pw_below_drewN | apply below_drew1 | refine below_set ?_ GE166.out) | exact HB.out)) hb); have n2_ := Aside0.mk (hbox); have n3_ := Aside0.mk ((by rw [hg]; exact (below_size (by repeat (first | (with_reducible first | exact HB.out | apply below_alloc | apply pw_below_drewN | apply below_drew1 | refine below_set ?_ GE166.out) | exact HB.out))) : w.heap.size ≤ gb167)); have n4_ := Aside0.mk ((by rw [hg]; exact (below_size (by repeat (first | (with_reducible first | exact HB.out | apply below_alloc | apply pw_below_drewN | apply below_drew1 | refine below_set ?_ GE166.out) | exact HB.out))) : w.heap.size ≤ gb167)); have n5_ := Aside0.mk ((by rw [hg]; exact Nat.ne_of_lt (blk_lt (g := gb166) (o := .cells #[.int .i64 a0_0, .int .i64 a0_1, .int .i64 a0_2, .slice A0_3 l0_3.length c0_3] 43 (0, 0)) (by (with_reducible repeat (first | refine blk_drewN ?_ _ | refine blk_drew ?_ | refine blk_alloc ?_ _)); exact BK166.out)) : gb166 ≠ gb167)); have n6_ := Aside0.mk ((by rw [hg]; exact Nat.ne_of_gt (blk_lt (g := gb166) (o := .cells #[.int .i64 a0_0, .int .i64 a0_1, .int .i64 a0_2, .slice A0_3 l0_3.length c0_3] 43 (0, 0)) (by (with_reducible repeat (first | refine blk_drewN ?_ _ | refine blk_drew ?_ | refine blk_alloc ?_ _)); exact BK166.out)) : gb167 ≠ gb166)); clear BK166; clear HB; have BK166 := n0_; have HB := n1_; have BK167 := n2_; have GW167 := n3_; have GE167 := n4_; have NB166_167 := n5_; have NB167_166 := n6_; clear n0_ n1_ n2_ n3_ n4_ n5_ n6_; clear hb hbox hg; have hnb25 := NB166_167.out; have hnc25 := NB167_166.out; have hcz26_0 : w24.cell? ⟨gb166, 0, none⟩ = some (.int .i64 a0_0) := (blk_cell BK166.out 0).trans rfl; have hcz26_1 : w24.cell? ⟨gb166, 1, none⟩ = some (.int .i64 a0_1) := (blk_cell BK166.out 1).trans rfl; have hcz26_2 : w24.cell? ⟨gb166, 2, none⟩ = some (.int .i64 a0_2) := (blk_cell BK166.out 2).trans rfl; have hcz26_3 : w24.cell? ⟨gb166, 3, none⟩ = some (.slice A0_3 l0_3.length c0_3) := (blk_cell BK166.out 3).trans rfl; have hfz26_0 := blk_frozen BK166.out 0; have hfz26_1 := blk_frozen BK166.out 1; have hfz26_2 := blk_frozen BK166.out 2; have hfz26_3 := blk_frozen BK166.out 3; have hcz27_0 : w24.cell? ⟨gb167, 0, none⟩ = some (.int .i64 a1_0) := (blk_cell BK167.out 0).trans rfl; have hcz27_1 : w24.cell? ⟨gb167, 1, none⟩ = some (.int .i64 a1_1) := (blk_cell BK167.out 1).trans rfl; have hcz27_2 : w24.cell? ⟨gb167, 2, none⟩ = some (.int .i64 a1_2) := (blk_cell BK167.out 2).trans rfl; have hcz27_3 : w24.cell? ⟨gb167, 3, none⟩ = some (.slice A1_3 l1_3.length c1_3) := (blk_cell BK167.out 3).trans rfl; have hfz27_0 := blk_frozen BK167.out 0; have hfz27_1 := blk_frozen BK167.out 1; have hfz27_2 := blk_frozen BK167.out 2; have hfz27_3 := blk_frozen BK167.out 3))
      go_ret
      exact ⟨by first | rfl | (simp [errW_none, errW_some] <;> rfl) | (simp [*, errW_none, errW_some] <;> rfl), by repeat (first | (with_reducible first | exact HB.out | apply below_alloc | apply pw_below_drewN | apply below_drew1 | refine below_set ?_ GE166.out | refine below_set ?_ GE167.out) | exact HB.out)⟩
  · rw [if_neg c3] at H
    have c3b0 : (a0_0 == a1_0) = false := beq_eq_false_iff_ne.mpr c3
    have c3b1 : (a0_0 != a1_0) = true := bne_iff_ne.mpr c3
    obtain rfl := Option.some.inj H
    go_enter Try.func27, Try.ntmps27
    go_wp2_with (first | ((with_reducible refine gate_dst (N := 2) rfl ?_); refine box_event ?hg (N := 2) ?hd (cs := #[.int .i64 a0_0, .int .i64 a0_1, .int .i64 a0_2, .slice A0_3 l0_3.length c0_3]) (t := 43) ?hr ?_; (case hd => rfl); (case hg => rfl); (case hr => first | (go_simp; done) | (go_simp; rfl)); intro gb166 hg w28 hbox hb; have n0_ := Aside0.mk (below_step (by repeat (first | (with_reducible first | exact HB.out | apply below_alloc | apply pw_below_drewN | apply below_drew1) | exact HB.out)) hb); have n1_ := Aside0.mk (hbox); have n2_ := Aside0.mk ((by rw [hg]; exact (below_size (by repeat (first | (with_reducible first | exact HB.out | apply below_alloc | apply pw_below_drewN | apply below_drew1) | exact HB.out))) : w.heap.size ≤ gb166)); have n3_ := Aside0.mk ((by rw [hg]; exact (below_size (by repeat (first | (with_reducible first | exact HB.out | apply below_alloc | apply pw_below_drewN | apply below_drew1) | exact HB.out))) : w.heap.size ≤ gb166)); clear HB; have HB := n0_; have BK166 := n1_; have GW166 := n2_; have GE166 := n3_; clear n0_ n1_ n2_ n3_; clear hb hbox hg) | ((with_reducible refine gate_dst (N := 3) rfl ?_); refine box_event ?hg (N := 3) ?hd (cs := #[.int .i64 a1_0, .int .i64 a1_1, .int .i64 a1_2, .slice A1_3 l1_3.length c1_3]) (t := 43) ?hr ?_; (case hd => rfl); (case hg => rfl); (case hr => first | (go_simp; done) | (go_simp; rfl)); intro gb167 hg w29 hbox hb; have n0_ := Aside0.mk (blk_below (g := gb166) (o := .cells #[.int .i64 a0_0, .int .i64 a0_1, .int .i64 a0_2, .slice A0_3 l0_3.length c0_3] 43 (0, 0)) (by (with_reducible repeat (first | refine blk_drewN ?_ _ | refine blk_drew ?_ | refine blk_alloc ?_ _)); exact BK166.out) hb); have n1_ := Aside0.mk (below_step (by repeat (first | (with_reducible first | exact HB.out | apply below_alloc | apply pw_below_drewN | apply below_drew1 | refine below_set ?_ GE166.out) | exact HB.out)) hb); have n2_ := Aside0.mk (hbox); have n3_ := Aside0.mk ((by rw [hg]; exact (below_size (by repeat (first | (with_reducible first | exact HB.out | apply below_alloc | apply pw_below_drewN | apply below_drew1 | refine below_set ?_ GE166.out) | exact HB.out))) : w.heap.size ≤ gb167)); have n4_ := Aside0.mk ((by rw [hg]; exact (below_size (by repeat (first | (with_reducible first | exact HB.out | apply below_alloc | apply pw_below_drewN | apply below_drew1 | refine below_set ?_ GE166.out) | exact HB.out))) : w.heap.size ≤ gb167)); have n5_ := Aside0.mk ((by rw [hg]; exact Nat.ne_of_lt (blk_lt (g := gb166) (o := .cells #[.int .i64 a0_0, .int .i64 a0_1, .int .i64 a0_2, .slice A0_3 l0_3.length c0_3] 43 (0, 0)) (by (with_reducible repeat (first | refine blk_drewN ?_ _ | refine blk_drew ?_ | refine blk_alloc ?_ _)); exact BK166.out)) : gb166 ≠ gb167)); have n6_ := Aside0.mk ((by rw [hg]; exact Nat.ne_of_gt (blk_lt (g := gb166) (o := .cells #[.int .i64 a0_0, .int .i64 a0_1, .int .i64 a0_2, .slice A0_3 l0_3.length c0_3] 43 (0, 0)) (by (with_reducible repeat (first | refine blk_drewN ?_ _ | refine blk_drew ?_ | refine blk_alloc ?_ _)); exact BK166.out)) : gb167 ≠ gb166)); clear BK166; clear HB; have BK166 := n0_; have HB := n1_; have BK167 := n2_; have GW167 := n3_; have GE167 := n4_; have NB166_167 := n5_; have NB167_166 := n6_; clear n0_ n1_ n2_ n3_ n4_ n5_ n6_; clear hb hbox hg; have hnb30 := NB166_167.out; have hnc30 := NB167_166.out; have hcz31_0 : w29.cell? ⟨gb166, 0, none⟩ = some (.int .i64 a0_0) := (blk_cell BK166.out 0).trans rfl; have hcz31_1 : w29.cell? ⟨gb166, 1, none⟩ = some (.int .i64 a0_1) := (blk_cell BK166.out 1).trans rfl; have hcz31_2 : w29.cell? ⟨gb166, 2, none⟩ = some (.int .i64 a0_2) := (blk_cell BK166.out 2).trans rfl; have hcz31_3 : w29.cell? ⟨gb166, 3, none⟩ = some (.slice A0_3 l0_3.length c0_3) := (blk_cell BK166.out 3).trans rfl; have hfz31_0 := blk_frozen BK166.out 0; have hfz31_1 := blk_frozen BK166.out 1; have hfz31_2 := blk_frozen BK166.out 2; have hfz31_3 := blk_frozen BK166.out 3; have hcz32_0 : w29.cell? ⟨gb167, 0, none⟩ = some (.int .i64 a1_0) := (blk_cell BK167.out 0).trans rfl; have hcz32_1 : w29.cell? ⟨gb167, 1, none⟩ = some (.int .i64 a1_1) := (blk_cell BK167.out 1).trans rfl; have hcz32_2 : w29.cell? ⟨gb167, 2, none⟩ = some (.int .i64 a1_2) := (blk_cell BK167.out 2).trans rfl; have hcz32_3 : w29.cell? ⟨gb167, 3, none⟩ = some (.slice A1_3 l1_3.length c1_3) := (blk_cell BK167.out 3).trans rfl; have hfz32_0 := blk_frozen BK167.out 0; have hfz32_1 := blk_frozen BK167.out 1; have hfz32_2 := blk_frozen BK167.out 2; have hfz32_3 := blk_frozen BK167.out 3))
    go_ret
    exact ⟨by first | rfl | (simp [errW_none, errW_some] <;> rfl) | (simp [*, errW_none, errW_some] <;> rfl), by repeat (first | (with_reducible first | exact HB.out | apply below_alloc | apply pw_below_drewN | apply below_drew1 | refine below_set ?_ GE166.out | refine below_set ?_ GE167.out) | exact HB.out)⟩
end Go.Proofs.Ythofgkmfllccnaa.G
namespace Go.Proofs.Ythofgkmfllccnaa.G
open Go.RowKit Go.Proofs.YthofgkmfllccnaaW.PrintWords Go.Proofs.YthofgkmfllccnaaW.PrintLast Go.Proofs.YthofgkmfllccnaaW.PrintMore
attribute [local go_sem] max2_int min2_int max_two min_two max_three min_three max_four min_four
set_option linter.unusedVariables false
set_option linter.unusedSimpArgs false
def laws_eqStepS.l0 : Nat → List (S43) → List (S43) → Int → Option (Bool)
  | 0, _, _, _ => none
  | k + 1, x0, x1, x5 => if x5 < (x0.length : Int) then (if 0 ≤ x5 then (if x5 < (x1.length : Int) then ((laws_eqStep.f k ((rd_T43 x0 x5).f0) ((rd_T43 x0 x5).f1) ((rd_T43 x0 x5).f2) ((rd_T43 x0 x5).f3) ((rd_T43 x1 x5).f0) ((rd_T43 x1 x5).f1) ((rd_T43 x1 x5).f2) ((rd_T43 x1 x5).f3)).bind fun t171 => (if t171 = true then (laws_eqStepS.l0 k x0 x1 (wrap64 (x5 + 1))) else (some false))) else (none)) else (none)) else (some true)
def laws_eqStepS.f (k : Nat) (l0 : List (S43)) (l1 : List (S43)) : Option (Bool) := if (l0.length : Int) = (l1.length : Int) then (laws_eqStepS.l0 k l0 l1 0) else (some false)
def laws_eqStepS.T6 : Bool × List (List Nat × List Nat) := (true, [([], []), ([], []), ([0, 1], [0, 1]), ([2], [2]), ([], []), ([], []), ([4, 5], [4, 5]), ([6], [6]), ([3, 7], [3, 7]), ([8], [8])])
def laws_eqStepS.B6 : List Nat := [0, 0, 3, 7, 0, 0, 48, 112, 255, 511]
theorem laws_eqStepS.tab6 : rtab .any (opsOf Try.f8 6) = laws_eqStepS.T6 := by kernel_rfl
theorem laws_eqStepS.bits6 : waitsOk laws_eqStepS.T6.2 laws_eqStepS.B6 = true := by kernel_rfl
set_option maxHeartbeats 8000000 in
set_option maxRecDepth 100000 in
theorem laws_eqStepS.calls (k : Nat) (A0 : Option Addr) (c0 : Nat) (l0 : List (S43)) (A1 : Option Addr) (c1 : Nat) (l1 : List (S43)) (r : Bool) (w : World) (hr0 : Kd.C k43 w A0 l0.length l0) (hc0 : l0.length ≤ c0) (hr1 : Kd.C k43 w A1 l1.length l1) (hc1 : l1.length ≤ c1) (h : laws_eqStepS.f k l0 l1 = some r) :
    Calls Try.prog 8 #[.slice A0 l0.length c0, .slice A1 l1.length c1] w fun e w' => e = .returned (.bool r) ∧ Below w.heap.size w w' := by
  have hu43 := Try.underlying43
  have HR0 := Aside0.mk hr0
  have HC0 := Aside0.mk hc0
  clear hr0 hc0
  have HR1 := Aside0.mk hr1
  have HC1 := Aside0.mk hc1
  clear hr1 hc1
  have HB := Aside0.mk (Below.refl w.heap.size w)
  have H : (if (l0.length : Int) = (l1.length : Int) then (laws_eqStepS.l0 k l0 l1 0) else (some false)) = some r := h
  clear h
  by_cases c3 : (l0.length : Int) = (l1.length : Int)
  · rw [if_pos c3] at H
    have c3b0 : ((l0.length : Int) == (l1.length : Int)) = true := beq_iff_eq.mpr c3
    have c3b1 : ((l0.length : Int) != (l1.length : Int)) = false := bne_eq_false_iff_eq.mpr c3
    have c3b2 : (l0.length == l1.length) = true := by first | simpa using c3 | (simp at c3 ⊢; omega)
    clear c3
    have H' := Aside0.mk H
    clear H
    go_enter Try.func8, Try.ntmps8
    go_wp2
    go_loopg [5] k (fun kq v5 w' => ∃ (x5_1 : Int), v5 = .int .i64 x5_1 ∧ Aside0 (laws_eqStepS.l0 kq l0 l1 x5_1 = some r) ∧ Aside0 (kq ≤ k) ∧ Aside0 (Below w.heap.size w w'))
    case atStart => exact ⟨(0), (by first | rfl | (simp; done) | (simp [*]; done)), H', ⟨Nat.le_refl _⟩, ⟨by repeat (first | (with_reducible first | exact HB.out | apply below_alloc | apply pw_below_drewN | apply below_drew1) | exact HB.out)⟩⟩
    case round =>
      clear H'
      try clear c1
      try clear p2
      try clear c3
      try clear c3b0
      try clear c3b1
      try clear c3b2
      obtain ⟨x5_1, rfl, HA, HK1, HB⟩ := hrel
      cases gk with
      | zero => exact absurd HA.out (by simp [laws_eqStepS.l0])
      | succ k1 =>
        have H := HA.out
        clear HA
        simp only [laws_eqStepS.l0] at H
        by_cases c4 : x5_1 < (l0.length : Int)
        · rw [if_pos c4] at H
          have c4b0 : decide (x5_1 < (l0.length : Int)) = true := decide_eq_true c4
          clear c4
          by_cases c5 : 0 ≤ x5_1
          · rw [if_pos c5] at H
            have c5b0 : decide (0 ≤ x5_1) = true := decide_eq_true c5
            clear c5
            by_cases c6 : x5_1 < (l1.length : Int)
            · rw [if_pos c6] at H
              have c6b0 : decide (x5_1 < (l1.length : Int)) = true := decide_eq_true c6
              clear c6
              replace H := Option.bind_eq_some_iff.mp H
              obtain ⟨t171, A70, H⟩ := H
              replace H : (if t171 = true then (laws_eqStepS.l0 k1 l0 l1 (wrap64 (x5_1 + 1))) else (some false)) = some r := H
              have A7 := Aside0.mk A70
              clear A70
              by_cases c8 : t171 = true
              · subst c8
                have H1 : (laws_eqStepS.l0 k1 l0 l1 (wrap64 (x5_1 + 1))) = some r := by rw [if_pos rfl] at H; exact H
                clear H
                have H := H1
                clear H1
                have H' := Aside0.mk H
                clear H
                try go_wp2
                have n0_ := Aside0.mk (below_drew1 HB.out)
                clear HB
                have HB := n0_
                clear n0_
                have p169 : 0 ≤ (x5_1 : Int) := of_decide_eq_true (by first | (with_reducible assumption) | assumption)
                have q169 : x5_1 < (l0.length : Int) := of_decide_eq_true (by first | (with_reducible assumption) | assumption)
                obtain ⟨ad169, A169_3, c169_3, e169, hx169_0, hx169_1, hx169_2, hx169_3, hl169_3, hi169_3⟩ := at_T43 HR0.out x5_1 p169 q169
                have hw169_3 := hx169_3
                have hw169_2 := hx169_2
                have hw169_1 := hx169_1
                have hw169_0 := hx169_0
                cases e169
                replace hx169_0 := (HB.out.cell (World.block_lt_of_cell? w _ hx169_0)).trans hx169_0
                replace hx169_1 := (HB.out.cell (World.block_lt_of_cell? w _ hx169_1)).trans hx169_1
                replace hx169_2 := (HB.out.cell (World.block_lt_of_cell? w _ hx169_2)).trans hx169_2
                replace hx169_3 := (HB.out.cell (World.block_lt_of_cell? w _ hx169_3)).trans hx169_3
                have HR169_3 := Aside0.mk hi169_3
                have HC169_3 := Aside0.mk hl169_3
                clear hi169_3 hl169_3
                replace p169 := eq_true p169
                replace q169 := eq_true q169
                have p170 : 0 ≤ (x5_1 : Int) := of_decide_eq_true (by first | (with_reducible assumption) | assumption)
                have q170 : x5_1 < (l1.length : Int) := of_decide_eq_true (by first | (with_reducible assumption) | assumption)
                obtain ⟨ad170, A170_3, c170_3, e170, hx170_0, hx170_1, hx170_2, hx170_3, hl170_3, hi170_3⟩ := at_T43 HR1.out x5_1 p170 q170
                have hw170_3 := hx170_3
                have hw170_2 := hx170_2
                have hw170_1 := hx170_1
                have hw170_0 := hx170_0
                cases e170
                replace hx170_0 := (HB.out.cell (World.block_lt_of_cell? w _ hx170_0)).trans hx170_0
                replace hx170_1 := (HB.out.cell (World.block_lt_of_cell? w _ hx170_1)).trans hx170_1
                replace hx170_2 := (HB.out.cell (World.block_lt_of_cell? w _ hx170_2)).trans hx170_2
                replace hx170_3 := (HB.out.cell (World.block_lt_of_cell? w _ hx170_3)).trans hx170_3
                have HR170_3 := Aside0.mk hi170_3
                have HC170_3 := Aside0.mk hl170_3
                clear hi170_3 hl170_3
                replace p170 := eq_true p170
                replace q170 := eq_true q170
                refine start_ (n := 10) (S := fun w' => w'.cell? (ad169.add ((x5_1).toNat * 4)) = some (.int .i64 ((rd_T43 l0 x5_1).f0)) ∧ w'.cell? ⟨(ad169.add ((x5_1).toNat * 4)).block, (ad169.add ((x5_1).toNat * 4)).off + 1, none⟩ = some (.int .i64 ((rd_T43 l0 x5_1).f1)) ∧ w'.cell? ⟨(ad169.add ((x5_1).toNat * 4)).block, (ad169.add ((x5_1).toNat * 4)).off + 2, none⟩ = some (.int .i64 ((rd_T43 l0 x5_1).f2)) ∧ w'.cell? ⟨(ad169.add ((x5_1).toNat * 4)).block, (ad169.add ((x5_1).toNat * 4)).off + 3, none⟩ = some (.slice A169_3 ((rd_T43 l0 x5_1).f3).length c169_3) ∧ w'.cell? (ad170.add ((x5_1).toNat * 4)) = some (.int .i64 ((rd_T43 l1 x5_1).f0)) ∧ w'.cell? ⟨(ad170.add ((x5_1).toNat * 4)).block, (ad170.add ((x5_1).toNat * 4)).off + 1, none⟩ = some (.int .i64 ((rd_T43 l1 x5_1).f1)) ∧ w'.cell? ⟨(ad170.add ((x5_1).toNat * 4)).block, (ad170.add ((x5_1).toNat * 4)).off + 2, none⟩ = some (.int .i64 ((rd_T43 l1 x5_1).f2)) ∧ w'.cell? ⟨(ad170.add ((x5_1).toNat * 4)).block, (ad170.add ((x5_1).toNat * 4)).off + 3, none⟩ = some (.slice A170_3 ((rd_T43 l1 x5_1).f3).length c170_3)) (ds := []) #[false, false, false, false, false, false, false, false, false, false] (by kernel_rfl) rfl rfl ⟨((HB.out.cell (World.block_lt_of_cell? w _ hw169_0)).trans hw169_0), ((HB.out.cell (World.block_lt_of_cell? w _ hw169_1)).trans hw169_1), ((HB.out.cell (World.block_lt_of_cell? w _ hw169_2)).trans hw169_2), ((HB.out.cell (World.block_lt_of_cell? w _ hw169_3)).trans hw169_3), ((HB.out.cell (World.block_lt_of_cell? w _ hw170_0)).trans hw170_0), ((HB.out.cell (World.block_lt_of_cell? w _ hw170_1)).trans hw170_1), ((HB.out.cell (World.block_lt_of_cell? w _ hw170_2)).trans hw170_2), ((HB.out.cell (World.block_lt_of_cell? w _ hw170_3)).trans hw170_3)⟩ (fun hHeld => ?_); refine with_tabW laws_eqStepS.tab6 laws_eqStepS.bits6 (fun HT_ HW_ => ?_)
                generalize wr.drew = w9 at HB HR169_3 HR170_3 hx169_0 hx169_1 hx169_2 hx169_3 hx170_0 hx170_1 hx170_2 hx170_3 hHeld ⊢
                refine pure_ (i := 0) (N := some 17) (v := ?_) (a' := ?_) #[true, false, false, false, false, false, false, false, false, false] rfl rfl (any_of HT_.out (by kernel_rfl)) (fun _ _ _ h => h) (Or.inl ⟨by rfl, ?_⟩) ?_ ?_
                rotate_left
                · intro w'
                  go_simp
                  with_reducible rfl
                rotate_left
                · simp only [Act.put, List.setIfInBounds_toArray, List.set_cons_zero, List.set_cons_succ, i64_w, i32_w]
                  rfl
                refine pure_ (i := 1) (N := some 18) (v := ?_) (a' := ?_) #[true, true, false, false, false, false, false, false, false, false] rfl rfl (any_of HT_.out (by kernel_rfl)) (fun _ _ _ h => h) (Or.inl ⟨by rfl, ?_⟩) ?_ ?_
                rotate_left
                · intro w'
                  go_simp
                  with_reducible rfl
                rotate_left
                · simp only [Act.put, List.setIfInBounds_toArray, List.set_cons_zero, List.set_cons_succ, i64_w, i32_w]
                  rfl
                refine pure_ (i := 2) (N := some 19) (v := ?_) (a' := ?_) #[true, true, true, false, false, false, false, false, false, false] rfl rfl (any_of HT_.out (by kernel_rfl)) (fun _ _ _ h => h) (Or.inl ⟨by rfl, ?_⟩) ?_ ?_
                rotate_left
                · intro w'
                  go_simp
                  with_reducible rfl
                rotate_left
                · simp only [Act.put, List.setIfInBounds_toArray, List.set_cons_zero, List.set_cons_succ, i64_w, i32_w]
                  rfl
                refine pure_ (i := 4) (N := some 21) (v := ?_) (a' := ?_) #[true, true, true, false, true, false, false, false, false, false] rfl rfl (any_of HT_.out (by kernel_rfl)) (fun _ _ _ h => h) (Or.inl ⟨by rfl, ?_⟩) ?_ ?_
                rotate_left
                · intro w'
                  go_simp
                  with_reducible rfl
                rotate_left
                · simp only [Act.put, List.setIfInBounds_toArray, List.set_cons_zero, List.set_cons_succ, i64_w, i32_w]
                  rfl
                refine pure_ (i := 5) (N := some 22) (v := ?_) (a' := ?_) #[true, true, true, false, true, true, false, false, false, false] rfl rfl (any_of HT_.out (by kernel_rfl)) (fun _ _ _ h => h) (Or.inl ⟨by rfl, ?_⟩) ?_ ?_
                rotate_left
                · intro w'
                  go_simp
                  with_reducible rfl
                rotate_left
                · simp only [Act.put, List.setIfInBounds_toArray, List.set_cons_zero, List.set_cons_succ, i64_w, i32_w]
                  rfl
                refine pure_ (i := 6) (N := some 23) (v := ?_) (a' := ?_) #[true, true, true, false, true, true, true, false, false, false] rfl rfl (any_of HT_.out (by kernel_rfl)) (fun _ _ _ h => h) (Or.inl ⟨by rfl, ?_⟩) ?_ ?_
                rotate_left
                · intro w'
                  go_simp
                  with_reducible rfl
                rotate_left
                · simp only [Act.put, List.setIfInBounds_toArray, List.set_cons_zero, List.set_cons_succ, i64_w, i32_w]
                  rfl
                refine take_ (i := 3) (N := some 20) (v := ?_) (a' := ?_) #[true, true, true, true, true, true, true, false, false, false] rfl rfl (take_ofW HT_.out HW_.out (by kernel_rfl)) (fun _ _ _ h => h) (Or.inl ⟨by rfl, ?_⟩) hHeld ?_ ?_
                rotate_left
                · rintro w' ⟨s0, s1, s2, s3, s4, s5, s6, s7⟩
                  go_simp
                  with_reducible rfl
                rotate_left
                · simp only [Act.put, List.setIfInBounds_toArray, List.set_cons_zero, List.set_cons_succ, i64_w, i32_w]
                  rfl
                refine take_ (i := 7) (N := some 24) (v := ?_) (a' := ?_) #[true, true, true, true, true, true, true, true, false, false] rfl rfl (take_ofW HT_.out HW_.out (by kernel_rfl)) (fun _ _ _ h => h) (Or.inl ⟨by rfl, ?_⟩) hHeld ?_ ?_
                rotate_left
                · rintro w' ⟨s0, s1, s2, s3, s4, s5, s6, s7⟩
                  go_simp
                  with_reducible rfl
                rotate_left
                · simp only [Act.put, List.setIfInBounds_toArray, List.set_cons_zero, List.set_cons_succ, i64_w, i32_w]
                  rfl
                refine one_ (i := 8) (N := some 25) #[true, true, true, true, true, true, true, true, true, false] rfl rfl (one_of HT_.out (by kernel_rfl)) (by decide) (fun K hK => ?_)
                refine goes_ Try.func27 (by kernel_rfl) rfl #[.agg #[.int .i64 ((rd_T43 l0 x5_1).f0), .int .i64 ((rd_T43 l0 x5_1).f1), .int .i64 ((rd_T43 l0 x5_1).f2), .slice A169_3 ((rd_T43 l0 x5_1).f3).length c169_3], .agg #[.int .i64 ((rd_T43 l1 x5_1).f0), .int .i64 ((rd_T43 l1 x5_1).f1), .int .i64 ((rd_T43 l1 x5_1).f2), .slice A170_3 ((rd_T43 l1 x5_1).f3).length c170_3]] (by rfl) rfl rfl (by (try simp only [List.map_toArray, List.map_cons, List.map_nil]); first | done | rfl | (simp only [List.length_drop, List.length_take]; rfl)) ?_
                with_reducible refine (laws_eqStep.calls k1 ((rd_T43 l0 x5_1).f0) ((rd_T43 l0 x5_1).f1) ((rd_T43 l0 x5_1).f2) _ _ ((rd_T43 l0 x5_1).f3) ((rd_T43 l1 x5_1).f0) ((rd_T43 l1 x5_1).f1) ((rd_T43 l1 x5_1).f2) _ _ ((rd_T43 l1 x5_1).f3) true _ ?side1 ?side2 ?side3 ?side4 A7.out).mono ?_
                (case side1 => repeat (first | exact (Kd.C_below HR169_3.out HB.out) | (with_reducible refine Kd.C_alloc ?_ _) | (with_reducible refine Kd.C_drewN ?_ _) | (with_reducible refine Kd.C_drew ?_)))
                (case side2 => exact HC169_3.out)
                (case side3 => repeat (first | exact (Kd.C_below HR170_3.out HB.out) | (with_reducible refine Kd.C_alloc ?_ _) | (with_reducible refine Kd.C_drewN ?_ _) | (with_reducible refine Kd.C_drew ?_)))
                (case side4 => exact HC170_3.out)
                rintro e w10 ⟨rfl, hb⟩
                refine ⟨_, rfl, ?_⟩
                have n0_ := Aside0.mk (below_step (by repeat (first | (with_reducible first | exact HB.out | apply below_alloc | apply pw_below_drewN | apply below_drew1) | exact HB.out)) hb)
                clear HB
                have HB := n0_
                clear n0_
                (try clear hb)
                (try clear hb2)
                (try clear hk)
                (try clear hi)
                refine hK.out _ _ ⟨((HB.out.cell (World.block_lt_of_cell? w _ hw169_0)).trans hw169_0), ((HB.out.cell (World.block_lt_of_cell? w _ hw169_1)).trans hw169_1), ((HB.out.cell (World.block_lt_of_cell? w _ hw169_2)).trans hw169_2), ((HB.out.cell (World.block_lt_of_cell? w _ hw169_3)).trans hw169_3), ((HB.out.cell (World.block_lt_of_cell? w _ hw170_0)).trans hw170_0), ((HB.out.cell (World.block_lt_of_cell? w _ hw170_1)).trans hw170_1), ((HB.out.cell (World.block_lt_of_cell? w _ hw170_2)).trans hw170_2), ((HB.out.cell (World.block_lt_of_cell? w _ hw170_3)).trans hw170_3)⟩ (fun hHeld => ?_)
                clear hK K
                refine norm_ (a' := ?_) ?_ ?_
                rotate_left
                · show Act.put _ (some 25) _ = _
                  simp only [Act.put, List.setIfInBounds_toArray, List.set_cons_zero, List.set_cons_succ, i64_w, i32_w]
                  rfl
                refine pure_ (i := 9) (N := some 26) (v := ?_) (a' := ?_) #[true, true, true, true, true, true, true, true, true, true] rfl rfl (any_of HT_.out (by kernel_rfl)) (fun _ _ _ h => h) (Or.inl ⟨by rfl, ?_⟩) ?_ ?_
                rotate_left
                · intro w'
                  go_simp
                  with_reducible rfl
                rotate_left
                · simp only [Act.put, List.setIfInBounds_toArray, List.set_cons_zero, List.set_cons_succ, i64_w, i32_w]
                  rfl
                refine done_ (done_of HT_.out (by kernel_rfl)) ?_
                try go_wp2
                go_roundg k1
                case measure => have := HK1.out; omega
                case rel => exact ⟨(wrap64 (x5_1 + 1)), (by first | rfl | (simp; done) | (simp [*]; done)), H', ⟨by have := HK1.out; omega⟩, ⟨by repeat (first | (with_reducible first | exact HB.out | apply below_alloc | apply pw_below_drewN | apply below_drew1) | exact HB.out)⟩⟩
              · replace c8 := Bool.eq_false_iff.mpr c8
                subst c8
                have H1 : (some false) = some r := by rw [if_neg (show ¬ (false = true) by decide)] at H; exact H
                clear H
                have H := H1
                clear H1
                obtain rfl := Option.some.inj H
                try go_wp2
                have n0_ := Aside0.mk (below_drew1 HB.out)
                clear HB
                have HB := n0_
                clear n0_
                have p169 : 0 ≤ (x5_1 : Int) := of_decide_eq_true (by first | (with_reducible assumption) | assumption)
                have q169 : x5_1 < (l0.length : Int) := of_decide_eq_true (by first | (with_reducible assumption) | assumption)
                obtain ⟨ad169, A169_3, c169_3, e169, hx169_0, hx169_1, hx169_2, hx169_3, hl169_3, hi169_3⟩ := at_T43 HR0.out x5_1 p169 q169
                have hw169_3 := hx169_3
                have hw169_2 := hx169_2
                have hw169_1 := hx169_1
                have hw169_0 := hx169_0
                cases e169
                replace hx169_0 := (HB.out.cell (World.block_lt_of_cell? w _ hx169_0)).trans hx169_0
                replace hx169_1 := (HB.out.cell (World.block_lt_of_cell? w _ hx169_1)).trans hx169_1
                replace hx169_2 := (HB.out.cell (World.block_lt_of_cell? w _ hx169_2)).trans hx169_2
                replace hx169_3 := (HB.out.cell (World.block_lt_of_cell? w _ hx169_3)).trans hx169_3
                have HR169_3 := Aside0.mk hi169_3
                have HC169_3 := Aside0.mk hl169_3
                clear hi169_3 hl169_3
                replace p169 := eq_true p169
                replace q169 := eq_true q169
                have p170 : 0 ≤ (x5_1 : Int) := of_decide_eq_true (by first | (with_reducible assumption) | assumption)
                have q170 : x5_1 < (l1.length : Int) := of_decide_eq_true (by first | (with_reducible assumption) | assumption)
                obtain ⟨ad170, A170_3, c170_3, e170, hx170_0, hx170_1, hx170_2, hx170_3, hl170_3, hi170_3⟩ := at_T43 HR1.out x5_1 p170 q170
                have hw170_3 := hx170_3
                have hw170_2 := hx170_2
                have hw170_1 := hx170_1
                have hw170_0 := hx170_0
                cases e170
                replace hx170_0 := (HB.out.cell (World.block_lt_of_cell? w _ hx170_0)).trans hx170_0
                replace hx170_1 := (HB.out.cell (World.block_lt_of_cell? w _ hx170_1)).trans hx170_1
                replace hx170_2 := (HB.out.cell (World.block_lt_of_cell? w _ hx170_2)).trans hx170_2
                replace hx170_3 := (HB.out.cell (World.block_lt_of_cell? w _ hx170_3)).trans hx170_3
                have HR170_3 := Aside0.mk hi170_3
                have HC170_3 := Aside0.mk hl170_3
                clear hi170_3 hl170_3
                replace p170 := eq_true p170
                replace q170 := eq_true q170
                refine start_ (n := 10) (S := fun w' => w'.cell? (ad169.add ((x5_1).toNat * 4)) = some (.int .i64 ((rd_T43 l0 x5_1).f0)) ∧ w'.cell? ⟨(ad169.add ((x5_1).toNat * 4)).block, (ad169.add ((x5_1).toNat * 4)).off + 1, none⟩ = some (.int .i64 ((rd_T43 l0 x5_1).f1)) ∧ w'.cell? ⟨(ad169.add ((x5_1).toNat * 4)).block, (ad169.add ((x5_1).toNat * 4)).off + 2, none⟩ = some (.int .i64 ((rd_T43 l0 x5_1).f2)) ∧ w'.cell? ⟨(ad169.add ((x5_1).toNat * 4)).block, (ad169.add ((x5_1).toNat * 4)).off + 3, none⟩ = some (.slice A169_3 ((rd_T43 l0 x5_1).f3).length c169_3) ∧ w'.cell? (ad170.add ((x5_1).toNat * 4)) = some (.int .i64 ((rd_T43 l1 x5_1).f0)) ∧ w'.cell? ⟨(ad170.add ((x5_1).toNat * 4)).block, (ad170.add ((x5_1).toNat * 4)).off + 1, none⟩ = some (.int .i64 ((rd_T43 l1 x5_1).f1)) ∧ w'.cell? ⟨(ad170.add ((x5_1).toNat * 4)).block, (ad170.add ((x5_1).toNat * 4)).off + 2, none⟩ = some (.int .i64 ((rd_T43 l1 x5_1).f2)) ∧ w'.cell? ⟨(ad170.add ((x5_1).toNat * 4)).block, (ad170.add ((x5_1).toNat * 4)).off + 3, none⟩ = some (.slice A170_3 ((rd_T43 l1 x5_1).f3).length c170_3)) (ds := []) #[false, false, false, false, false, false, false, false, false, false] (by kernel_rfl) rfl rfl ⟨((HB.out.cell (World.block_lt_of_cell? w _ hw169_0)).trans hw169_0), ((HB.out.cell (World.block_lt_of_cell? w _ hw169_1)).trans hw169_1), ((HB.out.cell (World.block_lt_of_cell? w _ hw169_2)).trans hw169_2), ((HB.out.cell (World.block_lt_of_cell? w _ hw169_3)).trans hw169_3), ((HB.out.cell (World.block_lt_of_cell? w _ hw170_0)).trans hw170_0), ((HB.out.cell (World.block_lt_of_cell? w _ hw170_1)).trans hw170_1), ((HB.out.cell (World.block_lt_of_cell? w _ hw170_2)).trans hw170_2), ((HB.out.cell (World.block_lt_of_cell? w _ hw170_3)).trans hw170_3)⟩ (fun hHeld => ?_); refine with_tabW laws_eqStepS.tab6 laws_eqStepS.bits6 (fun HT_ HW_ => ?_)
                generalize wr.drew = w11 at HB HR169_3 HR170_3 hx169_0 hx169_1 hx169_2 hx169_3 hx170_0 hx170_1 hx170_2 hx170_3 hHeld ⊢
                refine pure_ (i := 0) (N := some 17) (v := ?_) (a' := ?_) #[true, false, false, false, false, false, false, false, false, false] rfl rfl (any_of HT_.out (by kernel_rfl)) (fun _ _ _ h => h) (Or.inl ⟨by rfl, ?_⟩) ?_ ?_
                rotate_left
                · intro w'
                  go_simp
                  with_reducible rfl
                rotate_left
                · simp only [Act.put, List.setIfInBounds_toArray, List.set_cons_zero, List.set_cons_succ, i64_w, i32_w]
                  rfl
                refine pure_ (i := 1) (N := some 18) (v := ?_) (a' := ?_) #[true, true, false, false, false, false, false, false, false, false] rfl rfl (any_of HT_.out (by kernel_rfl)) (fun _ _ _ h => h) (Or.inl ⟨by rfl, ?_⟩) ?_ ?_
                rotate_left
                · intro w'
                  go_simp
                  with_reducible rfl
                rotate_left
                · simp only [Act.put, List.setIfInBounds_toArray, List.set_cons_zero, List.set_cons_succ, i64_w, i32_w]
                  rfl
                refine pure_ (i := 2) (N := some 19) (v := ?_) (a' := ?_) #[true, true, true, false, false, false, false, false, false, false] rfl rfl (any_of HT_.out (by kernel_rfl)) (fun _ _ _ h => h) (Or.inl ⟨by rfl, ?_⟩) ?_ ?_
                rotate_left
                · intro w'
                  go_simp
                  with_reducible rfl
                rotate_left
                · simp only [Act.put, List.setIfInBounds_toArray, List.set_cons_zero, List.set_cons_succ, i64_w, i32_w]
                  rfl
                refine pure_ (i := 4) (N := some 21) (v := ?_) (a' := ?_) #[true, true, true, false, true, false, false, false, false, false] rfl rfl (any_of HT_.out (by kernel_rfl)) (fun _ _ _ h => h) (Or.inl ⟨by rfl, ?_⟩) ?_ ?_
                rotate_left
                · intro w'
                  go_simp
                  with_reducible rfl
                rotate_left
                · simp only [Act.put, List.setIfInBounds_toArray, List.set_cons_zero, List.set_cons_succ, i64_w, i32_w]
                  rfl
                refine pure_ (i := 5) (N := some 22) (v := ?_) (a' := ?_) #[true, true, true, false, true, true, false, false, false, false] rfl rfl (any_of HT_.out (by kernel_rfl)) (fun _ _ _ h => h) (Or.inl ⟨by rfl, ?_⟩) ?_ ?_
                rotate_left
                · intro w'
                  go_simp
                  with_reducible rfl
                rotate_left
                · simp only [Act.put, List.setIfInBounds_toArray, List.set_cons_zero, List.set_cons_succ, i64_w, i32_w]
                  rfl
                refine pure_ (i := 6) (N := some 23) (v := ?_) (a' := ?_) #[true, true, true, false, true, true, true, false, false, false] rfl rfl (any_of HT_.out (by kernel_rfl)) (fun _ _ _ h => h) (Or.inl ⟨by rfl, ?_⟩) ?_ ?_
                rotate_left
                · intro w'
                  go_simp
                  with_reducible rfl
                rotate_left
                · simp only [Act.put, List.setIfInBounds_toArray, List.set_cons_zero, List.set_cons_succ, i64_w, i32_w]
                  rfl
                refine take_ (i := 3) (N := some 20) (v := ?_) (a' := ?_) #[true, true, true, true, true, true, true, false, false, false] rfl rfl (take_ofW HT_.out HW_.out (by kernel_rfl)) (fun _ _ _ h => h) (Or.inl ⟨by rfl, ?_⟩) hHeld ?_ ?_
                rotate_left
                · rintro w' ⟨s0, s1, s2, s3, s4, s5, s6, s7⟩
                  go_simp
                  with_reducible rfl
                rotate_left
                · simp only [Act.put, List.setIfInBounds_toArray, List.set_cons_zero, List.set_cons_succ, i64_w, i32_w]
                  rfl
                refine take_ (i := 7) (N := some 24) (v := ?_) (a' := ?_) #[true, true, true, true, true, true, true, true, false, false] rfl rfl (take_ofW HT_.out HW_.out (by kernel_rfl)) (fun _ _ _ h => h) (Or.inl ⟨by rfl, ?_⟩) hHeld ?_ ?_
                rotate_left
                · rintro w' ⟨s0, s1, s2, s3, s4, s5, s6, s7⟩
                  go_simp
                  with_reducible rfl
                rotate_left
                · simp only [Act.put, List.setIfInBounds_toArray, List.set_cons_zero, List.set_cons_succ, i64_w, i32_w]
                  rfl
                refine one_ (i := 8) (N := some 25) #[true, true, true, true, true, true, true, true, true, false] rfl rfl (one_of HT_.out (by kernel_rfl)) (by decide) (fun K hK => ?_)
                refine goes_ Try.func27 (by kernel_rfl) rfl #[.agg #[.int .i64 ((rd_T43 l0 x5_1).f0), .int .i64 ((rd_T43 l0 x5_1).f1), .int .i64 ((rd_T43 l0 x5_1).f2), .slice A169_3 ((rd_T43 l0 x5_1).f3).length c169_3], .agg #[.int .i64 ((rd_T43 l1 x5_1).f0), .int .i64 ((rd_T43 l1 x5_1).f1), .int .i64 ((rd_T43 l1 x5_1).f2), .slice A170_3 ((rd_T43 l1 x5_1).f3).length c170_3]] (by rfl) rfl rfl (by (try simp only [List.map_toArray, List.map_cons, List.map_nil]); first | done | rfl | (simp only [List.length_drop, List.length_take]; rfl)) ?_
                with_reducible refine (laws_eqStep.calls k1 ((rd_T43 l0 x5_1).f0) ((rd_T43 l0 x5_1).f1) ((rd_T43 l0 x5_1).f2) _ _ ((rd_T43 l0 x5_1).f3) ((rd_T43 l1 x5_1).f0) ((rd_T43 l1 x5_1).f1) ((rd_T43 l1 x5_1).f2) _ _ ((rd_T43 l1 x5_1).f3) false _ ?side1 ?side2 ?side3 ?side4 A7.out).mono ?_
                (case side1 => repeat (first | exact (Kd.C_below HR169_3.out HB.out) | (with_reducible refine Kd.C_alloc ?_ _) | (with_reducible refine Kd.C_drewN ?_ _) | (with_reducible refine Kd.C_drew ?_)))
                (case side2 => exact HC169_3.out)
                (case side3 => repeat (first | exact (Kd.C_below HR170_3.out HB.out) | (with_reducible refine Kd.C_alloc ?_ _) | (with_reducible refine Kd.C_drewN ?_ _) | (with_reducible refine Kd.C_drew ?_)))
                (case side4 => exact HC170_3.out)
                rintro e w12 ⟨rfl, hb⟩
                refine ⟨_, rfl, ?_⟩
                have n0_ := Aside0.mk (below_step (by repeat (first | (with_reducible first | exact HB.out | apply below_alloc | apply pw_below_drewN | apply below_drew1) | exact HB.out)) hb)
                clear HB
                have HB := n0_
                clear n0_
                (try clear hb)
                (try clear hb2)
                (try clear hk)
                (try clear hi)
                refine hK.out _ _ ⟨((HB.out.cell (World.block_lt_of_cell? w _ hw169_0)).trans hw169_0), ((HB.out.cell (World.block_lt_of_cell? w _ hw169_1)).trans hw169_1), ((HB.out.cell (World.block_lt_of_cell? w _ hw169_2)).trans hw169_2), ((HB.out.cell (World.block_lt_of_cell? w _ hw169_3)).trans hw169_3), ((HB.out.cell (World.block_lt_of_cell? w _ hw170_0)).trans hw170_0), ((HB.out.cell (World.block_lt_of_cell? w _ hw170_1)).trans hw170_1), ((HB.out.cell (World.block_lt_of_cell? w _ hw170_2)).trans hw170_2), ((HB.out.cell (World.block_lt_of_cell? w _ hw170_3)).trans hw170_3)⟩ (fun hHeld => ?_)
                clear hK K
                refine norm_ (a' := ?_) ?_ ?_
                rotate_left
                · show Act.put _ (some 25) _ = _
                  simp only [Act.put, List.setIfInBounds_toArray, List.set_cons_zero, List.set_cons_succ, i64_w, i32_w]
                  rfl
                refine pure_ (i := 9) (N := some 26) (v := ?_) (a' := ?_) #[true, true, true, true, true, true, true, true, true, true] rfl rfl (any_of HT_.out (by kernel_rfl)) (fun _ _ _ h => h) (Or.inl ⟨by rfl, ?_⟩) ?_ ?_
                rotate_left
                · intro w'
                  go_simp
                  with_reducible rfl
                rotate_left
                · simp only [Act.put, List.setIfInBounds_toArray, List.set_cons_zero, List.set_cons_succ, i64_w, i32_w]
                  rfl
                refine done_ (done_of HT_.out (by kernel_rfl)) ?_
                try go_wp2
                go_ret
                exact ⟨by first | rfl | (simp [errW_none, errW_some] <;> rfl) | (simp [*, errW_none, errW_some] <;> rfl), by repeat (first | (with_reducible first | exact HB.out | apply below_alloc | apply pw_below_drewN | apply below_drew1) | exact HB.out)⟩
            · rw [if_neg c6] at H
              exact absurd H (by simp)
          · rw [if_neg c5] at H
            exact absurd H (by simp)
        · rw [if_neg c4] at H
          have c4b0 : decide (x5_1 < (l0.length : Int)) = false := decide_eq_false c4
          clear c4
          obtain rfl := Option.some.inj H
          go_wp2
          go_ret
          exact ⟨by first | rfl | (simp [errW_none, errW_some] <;> rfl) | (simp [*, errW_none, errW_some] <;> rfl), by repeat (first | (with_reducible first | exact HB.out | apply below_alloc | apply pw_below_drewN | apply below_drew1) | exact HB.out)⟩
  · rw [if_neg c3] at H
    have c3b0 : ((l0.length : Int) == (l1.length : Int)) = false := beq_eq_false_iff_ne.mpr c3
    have c3b1 : ((l0.length : Int) != (l1.length : Int)) = true := bne_iff_ne.mpr c3
    have c3b2 : (l0.length == l1.length) = false := by first | simpa using c3 | (simp at c3 ⊢; omega)
    obtain rfl := Option.some.inj H
    go_enter Try.func8, Try.ntmps8
    go_wp2
    go_ret
    exact ⟨by first | rfl | (simp [errW_none, errW_some] <;> rfl) | (simp [*, errW_none, errW_some] <;> rfl), by repeat (first | (with_reducible first | exact HB.out | apply below_alloc | apply pw_below_drewN | apply below_drew1) | exact HB.out)⟩
end Go.Proofs.Ythofgkmfllccnaa.G
namespace Go.Proofs.Ythofgkmfllccnaa.G
open Go.RowKit Go.Proofs.YthofgkmfllccnaaW.PrintWords Go.Proofs.YthofgkmfllccnaaW.PrintLast Go.Proofs.YthofgkmfllccnaaW.PrintMore
attribute [local go_sem] max2_int min2_int max_two min_two max_three min_three max_four min_four
set_option linter.unusedVariables false
set_option linter.unusedSimpArgs false
def laws_toByteS.l0 : Nat → List Int → List Int → Int → Option (List Int)
  | 0, _, _, _ => none
  | k + 1, x0, x3, x4 => if x4 < (x0.length : Int) then (if 0 ≤ x4 then (if x4 < (x3.length : Int) then (laws_toByteS.l0 k x0 (x3.set (x4 : Int).toNat (rd x0 x4)) (wrap64 (x4 + 1))) else (none)) else (none)) else (some x3)
def laws_toByteS.f (k : Nat) (l0 : List Int) : Option (List Int) := if 0 ≤ (l0.length : Int) then (if ((l0.length : Int) : Int).toNat ≤ 281474976710656 then (laws_toByteS.l0 k l0 (List.replicate ((l0.length : Int) : Int).toNat 0) 0) else (none)) else (none)
set_option maxHeartbeats 8000000 in
set_option maxRecDepth 100000 in
theorem laws_toByteS.calls (k : Nat) (A0 : Option Addr) (c0 : Nat) (l0 : List Int) (r : List Int) (w : World) (hr0 : Kd.C (Kd.int .u8) w A0 l0.length l0) (hc0 : l0.length ≤ c0) (h : laws_toByteS.f k l0 = some r) :
    Calls Try.prog 6 #[.slice A0 l0.length c0] w fun e w' => ∃ v0_ : Value, e = .returned (v0_) ∧ Kd.R (Kd.int .u8) 5 w' w.heap.size (fun _ => True) v0_ r ∧ Below w.heap.size w w' := by
  have HR0 := Aside0.mk hr0
  have HC0 := Aside0.mk hc0
  clear hr0 hc0
  have HB := Aside0.mk (Below.refl w.heap.size w)
  have H : (if 0 ≤ (l0.length : Int) then (if ((l0.length : Int) : Int).toNat ≤ 281474976710656 then (laws_toByteS.l0 k l0 (List.replicate ((l0.length : Int) : Int).toNat 0) 0) else (none)) else (none)) = some r := h
  clear h
  by_cases c2 : 0 ≤ (l0.length : Int)
  · rw [if_pos c2] at H
    have c2b0 := eq_true c2
    have c2b1 : decide (0 ≤ (l0.length : Int)) = true := decide_eq_true c2
    clear c2
    by_cases c3 : ((l0.length : Int) : Int).toNat ≤ 281474976710656
    · rw [if_pos c3] at H
      have c3b0 := eq_true c3
      have c3b1 : decide (((l0.length : Int) : Int).toNat ≤ 281474976710656) = true := decide_eq_true c3
      clear c3
      obtain ⟨y158, hy158⟩ : ∃ y_ : List Int, y_ = (List.replicate ((l0.length : Int) : Int).toNat 0) := ⟨_, rfl⟩
      replace H : (laws_toByteS.l0 k l0 y158 0) = some r := by first | (rw [hy158]; with_reducible exact H) | (have H2_ := (Option.bind_some _ _).symm.trans H; rw [hy158]; with_reducible exact H2_) | (have H2_ := (Option.bind_some _ _).symm.trans H; with_reducible exact H2_) | with_reducible exact H | (rw [hy158]; exact H) | exact H
      have Ny158 := Aside0.mk hy158
      clear hy158
      have H' := Aside0.mk H
      clear H
      go_enter Try.func6, Try.ntmps6
      go_wp2_with (first | ((with_reducible refine gate_dst (N := 7) rfl ?_); refine Kd.R_make (Kd.int .u8) _ 5 rfl (N := 7) rfl 22 _ _ rfl (l0.length : Int) rfl rfl Try.underlying22 (.int .u8 0) 1 info5 rfl (by decide) (by omega) 0 (ok := fun _ => True) (okp := fun _ => True) rfl (fun _ hk => hk) trivial (of_decide_eq_true (by first | (with_reducible assumption) | assumption)) (Nat.le_trans (Nat.mul_le_mul_right _ (of_decide_eq_true (by first | (with_reducible assumption) | assumption) : (l0.length : Int).toNat ≤ 281474976710656)) (by omega)) (Below.refl _ _) (Nat.le_refl _) ?_; intro v159 w4 ho5 hb hg_ hnew_; clear hg_ hnew_; (first | rw [← Ny158.out] at ho5 | (simp only [Int.reduceToNat] at ho5; rw [← Ny158.out] at ho5)); have n0_ := Aside0.mk (Kd.R_lower ho5 (below_size (by repeat (first | (with_reducible first | exact HB.out | apply below_alloc | apply pw_below_drewN | apply below_drew1) | exact HB.out)))); have n1_ := Aside0.mk (below_step (by repeat (first | (with_reducible first | exact HB.out | apply below_alloc | apply pw_below_drewN | apply below_drew1) | exact HB.out)) hb); clear HB; have HO160 := n0_; have HB := n1_; clear n0_ n1_; clear hb ho5))
      go_loopg [4] k (fun kq v4 w' => ∃ (x3_1 : List Int) (x4_1 : Int), v4 = .int .i64 x4_1 ∧ Aside0 (laws_toByteS.l0 kq l0 x3_1 x4_1 = some r) ∧ Aside0 (kq ≤ k) ∧ Aside0 (Kd.R (Kd.int .u8) 5 w' w.heap.size (fun _ => True) v159 x3_1) ∧ Aside0 (Below w.heap.size w w'))
      case atStart => exact ⟨(y158), (0), (by first | rfl | (simp; done) | (simp [*]; done)), H', ⟨Nat.le_refl _⟩, ⟨by (with_reducible repeat (first | apply Kd.R_alloc | apply Kd.R_drewN | apply Kd.R_drew)); exact HO160.out⟩, ⟨by repeat (first | (with_reducible first | exact HB.out | apply below_alloc | apply pw_below_drewN | apply below_drew1) | exact HB.out)⟩⟩
      case round =>
        clear H'
        try clear c2
        try clear c2b0
        try clear c2b1
        try clear p2
        try clear c3
        try clear c3b0
        try clear c3b1
        obtain ⟨x3_1, x4_1, rfl, HA, HK1, HO_3, HB⟩ := hrel
        cases gk with
        | zero => exact absurd HA.out (by simp [laws_toByteS.l0])
        | succ k1 =>
          have H := HA.out
          clear HA
          simp only [laws_toByteS.l0] at H
          by_cases c6 : x4_1 < (l0.length : Int)
          · rw [if_pos c6] at H
            have c6b0 : decide (x4_1 < (l0.length : Int)) = true := decide_eq_true c6
            clear c6
            by_cases c7 : 0 ≤ x4_1
            · rw [if_pos c7] at H
              have c7b0 : decide (0 ≤ x4_1) = true := decide_eq_true c7
              clear c7
              by_cases c8 : x4_1 < (x3_1.length : Int)
              · rw [if_pos c8] at H
                have c8b0 : decide (x4_1 < (x3_1.length : Int)) = true := decide_eq_true c8
                clear c8
                obtain ⟨y162, hy162⟩ : ∃ y_ : List Int, y_ = (x3_1.set (x4_1 : Int).toNat (rd l0 x4_1)) := ⟨_, rfl⟩
                replace H : (laws_toByteS.l0 k1 l0 y162 (wrap64 (x4_1 + 1))) = some r := by first | (rw [hy162]; with_reducible exact H) | (have H2_ := (Option.bind_some _ _).symm.trans H; rw [hy162]; with_reducible exact H2_) | (have H2_ := (Option.bind_some _ _).symm.trans H; with_reducible exact H2_) | with_reducible exact H | (rw [hy162]; exact H) | exact H
                have Ny162 := Aside0.mk hy162
                clear hy162
                have H' := Aside0.mk H
                clear H
                have p161 : 0 ≤ (x4_1 : Int) := of_decide_eq_true (by first | (with_reducible assumption) | assumption)
                have q161 : x4_1 < (l0.length : Int) := of_decide_eq_true (by first | (with_reducible assumption) | assumption)
                obtain ⟨ad161, e161, hx161_0⟩ := Kd.at_int HR0.out x4_1 p161 q161
                cases e161
                replace hx161_0 := (HB.out.cell (World.block_lt_of_cell? w _ hx161_0)).trans hx161_0
                replace p161 := eq_true p161
                replace q161 := eq_true q161
                have p9 : 0 ≤ (x4_1 : Int) := of_decide_eq_true (by first | (with_reducible assumption) | assumption)
                have q9 : (x4_1 : Int) < ((x3_1.length : Int) : Int) := of_decide_eq_true (by first | (with_reducible assumption) | assumption)
                obtain ⟨go9, co9, eo9, gb9, gl9, cl9, HG9⟩ := Kd.R_form HO_3.out (by omega)
                (first | cases eo9 | (injection eo9 with ea_ en_ ec_; (first | subst ea_ | (injection ea_ with ea_; subst ea_)); subst ec_; clear en_))
                have GB9 := Aside0.mk gb9
                have GG9 := Aside0.mk HG9
                clear gb9 gl9 HG9
                obtain ⟨hx9_0, hf9_0⟩ := Kd.R_celln 0 HO_3.out (x4_1 : Int) p9 q9
                replace p9 := eq_true p9
                replace q9 := eq_true q9
                have HP10 := Kd.R_putg HO_3.out (x4_1 : Int) (rd l0 x4_1)
                go_wp2_with (first | ((with_reducible refine gate_store (t := 5) (p := 20) rfl ?_); refine store_event (t := 5) (p := 20) (v := ?vo_w11) (w1 := (wr.setCell ⟨go9, (x4_1 : Int).toNat, none⟩ (.int .u8 (rd l0 x4_1)))) ?hg ?ho ?hn ?hr ?_; (case ho => rfl); (case hg => rfl); (case hn => rfl); (case hr => first | (go_simp; done) | (go_simp; rfl)); intro w11 hw; have hg : wr.grownBy w11 (some go9) := (by rw [hw]; exact HP10.2); have hp_ : Kd.R (Kd.int .u8) 5 w11 w.heap.size (fun _ => True) (.slice (some ⟨go9, 0, none⟩) x3_1.length co9) y162 := (by rw [hw, Ny162.out]; exact HP10.1); clear HP10; have n0_ := Aside0.mk (hp_); have n1_ := Aside0.mk ((by rw [hw]; exact below_set (HB.out) GB9.out : Below w.heap.size w w11)); clear HO_3; clear HB; have HO_3 := n0_; have HB := n1_; clear n0_ n1_; clear hg hw hp_))
                go_roundg k1
                case measure => have := HK1.out; omega
                case rel => exact ⟨(y162), (wrap64 (x4_1 + 1)), (by first | rfl | (simp; done) | (simp [*]; done)), H', ⟨by have := HK1.out; omega⟩, ⟨by (with_reducible repeat (first | apply Kd.R_alloc | apply Kd.R_drewN | apply Kd.R_drew)); exact HO_3.out⟩, ⟨by repeat (first | (with_reducible first | exact HB.out | apply below_alloc | apply pw_below_drewN | apply below_drew1) | exact HB.out)⟩⟩
              · rw [if_neg c8] at H
                exact absurd H (by simp)
            · rw [if_neg c7] at H
              exact absurd H (by simp)
          · rw [if_neg c6] at H
            have c6b0 : decide (x4_1 < (l0.length : Int)) = false := decide_eq_false c6
            clear c6
            obtain rfl := Option.some.inj H
            go_wp2
            go_ret
            exact ⟨_, by first | rfl | (simp [errW_none, errW_some] <;> rfl) | (simp [*, errW_none, errW_some] <;> rfl), by (with_reducible repeat (first | apply Kd.R_alloc | apply Kd.R_drewN | apply Kd.R_drew)); exact HO_3.out, by repeat (first | (with_reducible first | exact HB.out | apply below_alloc | apply pw_below_drewN | apply below_drew1) | exact HB.out)⟩
    · rw [if_neg c3] at H
      exact absurd H (by simp)
  · rw [if_neg c2] at H
    exact absurd H (by simp)
end Go.Proofs.Ythofgkmfllccnaa.G
namespace Go.Proofs.Ythofgkmfllccnaa.G
open Go.RowKit Go.Proofs.YthofgkmfllccnaaW.PrintWords Go.Proofs.YthofgkmfllccnaaW.PrintLast
set_option linter.unusedVariables false
set_option linter.unusedSimpArgs false
theorem rd_int_nat (l : List Int) (i : Nat) (h : i < l.length) : rd l (i : Int) = l[i] := by
  unfold rd
  rw [Int.toNat_natCast, List.getD_eq_getElem?_getD, List.getElem?_eq_getElem h]
  rfl
theorem tob_loop (l : List Int) (hl : l.length ≤ 1048576) (d : Nat) : ∀ (i : Nat) (o : List Int), i + d = l.length → o.length = l.length → o.take i = l.take i → Ev (fun k => laws_toByteS.l0 k l o (i : Int)) l := by
  induction d with
  | zero =>
    intro i o hi ho he
    have : o = l := by rwa [List.take_of_length_le (by omega), List.take_of_length_le (by omega)] at he
    subst this
    exact Ev.step (f := fun _ => some o) (fun k => by rw [laws_toByteS.l0, if_neg (by omega)]) (Ev.now _)
  | succ d ih =>
    intro i o hi ho he
    have hw := wrap_up i d l.length (by omega) hi
    have hil : i < l.length := by omega
    refine Ev.step (fun k => by rw [laws_toByteS.l0, hw, if_pos (by omega), if_pos (by omega), if_pos (by omega), rd_int_nat l i hil, Int.toNat_natCast]) (ih (i + 1) (o.set i l[i]) (by omega) (by rw [List.length_set]; exact ho) ?_)
    rw [List.take_succ_eq_append_getElem (by rw [List.length_set]; omega), List.take_succ_eq_append_getElem hil, List.getElem_set_self, List.take_set_of_le (Nat.le_refl _), he]
theorem tob_ev (l : List Int) (hl : l.length ≤ 1048576) : Ev (fun k => laws_toByteS.f k l) l :=
  Ev.congr (fun k => by unfold laws_toByteS.f; rw [if_pos (by omega), if_pos (by omega)]; rfl) (tob_loop l hl l.length 0 (List.replicate l.length 0) (by omega) (by simp) rfl)
theorem eqb_loop (l : List Int) (hl : l.length ≤ 1048576) (d : Nat) : ∀ i : Nat, i + d = l.length → Ev (fun k => laws_eqByteS.l0 k l l (i : Int)) true := by
  induction d with
  | zero =>
    intro i hi
    exact Ev.step (f := fun _ => some true) (fun k => by rw [laws_eqByteS.l0, if_neg (by omega)]) (Ev.now _)
  | succ d ih =>
    intro i hi
    have hw := wrap_up i d l.length (by omega) hi
    exact Ev.step (fun k => by rw [laws_eqByteS.l0, hw, if_pos (by omega), if_pos (by omega), if_pos (by omega), if_pos rfl]) (ih (i + 1) (by omega))
theorem eqb_ev (l : List Int) (hl : l.length ≤ 1048576) : Ev (fun k => laws_eqByteS.f k l l) true :=
  Ev.congr (fun k => by unfold laws_eqByteS.f; rw [if_pos rfl]; rfl) (eqb_loop l hl l.length 0 (by omega))
theorem eqst_ev (s : S43) (h : s.f3.length ≤ 1048576) : Ev (fun k => laws_eqStep.f k s.f0 s.f1 s.f2 s.f3 s.f0 s.f1 s.f2 s.f3) true := by
  refine Ev.congr (f := fun k => (laws_eqByteS.f k s.f3 s.f3).bind fun t => if t = true then some true else some false) (fun k => ?_) (Ev.bind (eqb_ev _ h) (Ev.congr (fun k => if_pos rfl) (Ev.now _)))
  unfold laws_eqStep.f
  rw [if_pos rfl, if_pos rfl, if_pos rfl]
theorem eqsts_loop (l : List S43) (hl : l.length ≤ 1048576) (hu : ∀ s ∈ l, s.f3.length ≤ 1048576) (d : Nat) : ∀ i : Nat, i + d = l.length → Ev (fun k => laws_eqStepS.l0 k l l (i : Int)) true := by
  induction d with
  | zero =>
    intro i hi
    exact Ev.step (f := fun _ => some true) (fun k => by rw [laws_eqStepS.l0, if_neg (by omega)]) (Ev.now _)
  | succ d ih =>
    intro i hi
    have hw := wrap_up i d l.length (by omega) hi
    have hil : i < l.length := by omega
    exact Ev.step (fun k => by rw [laws_eqStepS.l0, hw, if_pos (by omega), if_pos (by omega), if_pos (by omega), rd_T43_nat l i hil]) (Ev.bind (eqst_ev l[i] (hu _ (List.getElem_mem hil))) (Ev.congr (fun k => if_pos rfl) (ih (i + 1) (by omega))))
theorem eqsts_ev (l : List S43) (hl : l.length ≤ 1048576) (hu : ∀ s ∈ l, s.f3.length ≤ 1048576) : Ev (fun k => laws_eqStepS.f k l l) true :=
  Ev.congr (fun k => by unfold laws_eqStepS.f; rw [if_pos rfl]; rfl) (eqsts_loop l hl hu l.length 0 (by omega))
def markB : Int → Nat → List Int
  | _, 0 => []
  | a, n + 1 => a % 256 :: markB (a + 1) n
theorem markB_len : ∀ (n : Nat) (a : Int), (markB a n).length = n
  | 0, a => rfl
  | n + 1, a => by rw [markB, List.length_cons, markB_len]
theorem markb_loop : ∀ (t pre : List Int) (a : Int), (pre ++ t).length ≤ 1048576 → 0 ≤ a → a + t.length ≤ 1152921504606846976 →
    Ev (fun k => laws_markByteS.l0 k (pre ++ t) a (pre.length : Int)) (a + t.length, pre ++ markB a t.length)
  | [], pre, a, hl, h0, ha => by
    refine Ev.step (f := fun _ => some (a + (0 : Nat), pre ++ [])) (fun k => ?_) (Ev.now _)
    rw [laws_markByteS.l0, if_neg (by simp)]
    simp
  | x :: t, pre, a, hl, h0, ha => by
    have hl' : pre.length + (t.length + 1) ≤ 1048576 := by simpa using hl
    have hw : wrap64 ((pre.length : Int) + 1) = ((pre ++ [a % 256]).length : Int) := by rw [wrap_id (by omega) (by omega)]; simp
    have hwa : wrap64 (a + 1) = a + 1 := by rw [List.length_cons] at ha; exact wrap_id (by omega) (by omega)
    have ih := markb_loop t (pre ++ [a % 256]) (a + 1) (by simpa using hl) (by omega) (by rw [List.length_cons] at ha; omega)
    have e1 : a + 1 + (t.length : Int) = a + ((x :: t).length : Int) := by rw [List.length_cons]; omega
    have e2 : (pre ++ [a % 256]) ++ markB (a + 1) t.length = pre ++ markB a (x :: t).length := by rw [List.length_cons, markB, List.append_assoc]; rfl
    rw [e1, e2] at ih
    refine Ev.step (fun k => ?_) ih
    have e3 : (pre ++ x :: t).set pre.length (a % 256) = (pre ++ [a % 256]) ++ t := by
      rw [List.set_append_right _ _ (Nat.le_refl _), Nat.sub_self, List.append_assoc]; rfl
    rw [laws_markByteS.l0, if_pos (by simp; omega), if_pos (by omega), hw, hwa, Int.toNat_natCast, e3]
theorem markb_ev (l : List Int) (a : Int) (hl : l.length ≤ 1048576) (h0 : 0 ≤ a) (ha : a + l.length ≤ 1152921504606846976) : Ev (fun k => laws_markByteS.f k l a) (a + l.length, markB a l.length) :=
  markb_loop l [] a hl h0 ha
theorem heldb_loop : ∀ (n : Nat) (pre : List Int) (a : Int), pre.length + n ≤ 1048576 → 0 ≤ a → a + n ≤ 1152921504606846976 →
    Ev (fun k => laws_heldByteS.l0 k (pre ++ markB a n) a (pre.length : Int)) (a + n)
  | 0, pre, a, hl, h0, ha => by
    refine Ev.step (f := fun _ => some (a + (0 : Nat))) (fun k => ?_) (Ev.now _)
    rw [laws_heldByteS.l0, if_neg (by simp [markB])]
    simp
  | n + 1, pre, a, hl, h0, ha => by
    have hw : wrap64 ((pre.length : Int) + 1) = ((pre ++ [a % 256]).length : Int) := by rw [wrap_id (by omega) (by omega)]; simp
    have hwa : wrap64 (a + 1) = a + 1 := wrap_id (by omega) (by omega)
    have ih := heldb_loop n (pre ++ [a % 256]) (a + 1) (by simp; omega) (by omega) (by omega)
    have e1 : a + 1 + (n : Int) = a + ((n + 1 : Nat) : Int) := by omega
    have e2 : (pre ++ [a % 256]) ++ markB (a + 1) n = pre ++ markB a (n + 1) := by rw [markB, List.append_assoc]; rfl
    rw [e1, e2] at ih
    refine Ev.step (fun k => ?_) ih
    have hlen : (pre ++ markB a (n + 1)).length = pre.length + (n + 1) := by rw [List.length_append, markB_len]
    have e3 : rd (pre ++ markB a (n + 1)) (pre.length : Int) = a % 256 := by
      rw [rd_int_nat _ _ (by rw [hlen]; omega)]
      simp [markB]
    rw [laws_heldByteS.l0, if_pos (by rw [hlen]; omega), if_pos (by omega), e3, if_pos rfl, hw, hwa]
theorem heldb_ev (n : Nat) (a : Int) (hl : n ≤ 1048576) (h0 : 0 ≤ a) (ha : a + n ≤ 1152921504606846976) : Ev (fun k => laws_heldByteS.f k (markB a n) a) (a + n) :=
  heldb_loop n [] a (by simpa using hl) h0 ha
def markL : Int → List S43 → List S43
  | _, [] => []
  | a, s :: t => ⟨a, a + 1, a + 2, markB (a + 3) s.f3.length⟩ :: markL (a + 3 + s.f3.length) t
def endL : Int → List S43 → Int
  | a, [] => a
  | a, s :: t => endL (a + 3 + s.f3.length) t
theorem endL_ge : ∀ (l : List S43) (a : Int), a ≤ endL a l
  | [], a => Int.le_refl _
  | s :: t, a => by
    have := endL_ge t (a + 3 + s.f3.length)
    rw [endL]; omega
theorem endL_le : ∀ (l : List S43) (a : Int), (∀ s ∈ l, s.f3.length ≤ 1048576) → endL a l ≤ a + 1048579 * l.length
  | [], a, _ => by rw [endL]; simp
  | s :: t, a, h => by
    have := endL_le t (a + 3 + s.f3.length) (fun y hy => h y (List.mem_cons_of_mem _ hy))
    have hs := h s List.mem_cons_self
    rw [endL, List.length_cons]; omega
theorem markL_len : ∀ (l : List S43) (a : Int), (markL a l).length = l.length
  | [], a => rfl
  | s :: t, a => by rw [markL, List.length_cons, markL_len, List.length_cons]
theorem helds_loop : ∀ (l pre : List S43) (a : Int), (∀ s ∈ l, s.f3.length ≤ 1048576) → pre.length + l.length ≤ 1048576 → 0 ≤ a → endL a l ≤ 1152921504606846976 →
    Ev (fun k => laws_heldStepS.l0 k (pre ++ markL a l) a (pre.length : Int)) (endL a l)
  | [], pre, a, hu, hl, h0, ha => by
    refine Ev.step (f := fun _ => some a) (fun k => ?_) (Ev.now _)
    rw [laws_heldStepS.l0, if_neg (by simp [markL])]
  | s :: t, pre, a, hu, hl, h0, ha => by
    rw [List.length_cons] at hl
    rw [endL] at ha
    have hge := endL_ge t (a + 3 + s.f3.length)
    have hs := hu s List.mem_cons_self
    obtain ⟨m, hm⟩ : ∃ m : S43, m = ⟨a, a + 1, a + 2, markB (a + 3) s.f3.length⟩ := ⟨_, rfl⟩
    have hw : wrap64 ((pre.length : Int) + 1) = ((pre ++ [m]).length : Int) := by rw [wrap_id (by omega) (by omega)]; simp
    have hw1 : wrap64 (a + 1) = a + 1 := wrap_id (by omega) (by omega)
    have hw2 : wrap64 (a + 1 + 1) = a + 2 := by rw [wrap_id (by omega) (by omega)]; omega
    have hw3 : wrap64 (a + 2 + 1) = a + 3 := by rw [wrap_id (by omega) (by omega)]; omega
    have ih := helds_loop t (pre ++ [m]) (a + 3 + s.f3.length) (fun y hy => hu y (List.mem_cons_of_mem _ hy)) (by simp; omega) (by omega) ha
    have e2 : (pre ++ [m]) ++ markL (a + 3 + s.f3.length) t = pre ++ markL a (s :: t) := by rw [markL, List.append_assoc, ← hm]; rfl
    rw [e2] at ih
    have hlen : (pre ++ markL a (s :: t)).length = pre.length + (t.length + 1) := by rw [List.length_append, markL_len, List.length_cons]
    have e3 : rd_T43 (pre ++ markL a (s :: t)) (pre.length : Int) = m := by
      rw [rd_T43_nat _ _ (by rw [hlen]; omega)]
      simp [markL, hm]
    rw [endL]
    refine Ev.step (f := fun k => (laws_heldByteS.f k (markB (a + 3) s.f3.length) (a + 3)).bind fun t178 => if t178 < 0 then some (-1) else laws_heldStepS.l0 k (pre ++ markL a (s :: t)) t178 ((pre ++ [m]).length : Int)) (fun k => ?_) (Ev.bind (heldb_ev s.f3.length (a + 3) hs (by omega) (by omega)) (Ev.congr (fun k => if_neg (show ¬ (a + 3 + (s.f3.length : Int) < 0) by omega)) ih))
    rw [laws_heldStepS.l0, if_pos (by rw [hlen]; omega), if_pos (by omega), e3, hw, hw1, hw2, hw3]
    subst hm
    rw [if_pos rfl, if_pos rfl, if_pos rfl]
theorem helds_ev (l : List S43) (a : Int) (hu : ∀ s ∈ l, s.f3.length ≤ 1048576) (hl : l.length ≤ 1048576) (h0 : 0 ≤ a) (ha : endL a l ≤ 1152921504606846976) : Ev (fun k => laws_heldStepS.f k (markL a l) a) (endL a l) :=
  helds_loop l [] a hu (by simpa using hl) h0 ha
end Go.Proofs.Ythofgkmfllccnaa.G
namespace Go.Proofs.Ythofgkmfllccnaa.G
open Go.RowKit Go.Proofs.YthofgkmfllccnaaW.PrintWords Go.Proofs.YthofgkmfllccnaaW.PrintLast Go.Proofs.YthofgkmfllccnaaW.PrintMore
set_option linter.unusedVariables false
set_option linter.unusedSimpArgs false
theorem getD_mid (pre t : List S43) (s : S43) : (pre ++ s :: t).getD ((pre.length : Int)).toNat z43 = s := by
  rw [Int.toNat_natCast, List.getD_eq_getElem?_getD, List.getElem?_append_right (Nat.le_refl _), Nat.sub_self]
  rfl
theorem setCells_one (W : World) (g o : Nat) (u : Value) : W.setCells g o [u] = W.setCell ⟨g, o, none⟩ u := by
  simp [World.setCells, World.setCell]
theorem mark_hole {W : World} {base : Nat} {ok oki : Nat → Prop} {g n cap i : Nat} {xs : List S43} {p q r v3 : Value} (h : Kd.H k43 43 W base ok (.slice (some ⟨g, 0, none⟩) n cap) xs (i : Int) oki [p, q, r, v3]) (h0 : (0 : Int) ≤ (i : Int)) (h1 : (i : Int) < (n : Int)) (a b c : Int) :
    Kd.H k43 43 (((W.setCell ⟨g, i * 4, none⟩ (.int .i64 a)).setCell ⟨g, i * 4 + 1, none⟩ (.int .i64 b)).setCell ⟨g, i * 4 + 2, none⟩ (.int .i64 c)) base ok (.slice (some ⟨g, 0, none⟩) n cap) xs (i : Int) oki [.int .i64 a, .int .i64 b, .int .i64 c, v3] := by
  have hsz : k43.sz = 4 := rfl
  have e1 := (Kd.H_seg h h0 h1 (seg := [.int .i64 a]) (j := 0) (by rw [hsz]; simp) (by intro q hq; rw [List.mem_singleton.1 hq]; rfl)).1
  have e2 := (Kd.H_seg e1 h0 h1 (seg := [.int .i64 b]) (j := 1) (by rw [hsz]; simp) (by intro q hq; rw [List.mem_singleton.1 hq]; rfl)).1
  have e3 := (Kd.H_seg e2 h0 h1 (seg := [.int .i64 c]) (j := 2) (by rw [hsz]; simp) (by intro q hq; rw [List.mem_singleton.1 hq]; rfl)).1
  rw [setCells_one, setCells_one, setCells_one, hsz, Int.toNat_natCast, Nat.add_zero] at e3
  exact e3
set_option maxHeartbeats 8000000 in
set_option maxRecDepth 100000 in
theorem markStepS_c {wi w : World} {A : Option Addr} {c : Nat} {l : List S43} {a : Int} (hB : Below wi.heap.size wi w) (h : Kd.S k43 43 w wi.heap.size (fun _ => True) (.slice A l.length c) l)
    (hu : ∀ s ∈ l, s.f3.length ≤ 1048576) (hl : l.length ≤ 10000) (h0 : 0 ≤ a) (ha : endL a l ≤ 1152921504606846976) :
    Calls Try.prog 11 #[.slice A l.length c, .int .i64 a] w fun e w' => e = .returned (.int .i64 (endL a l)) ∧ Kd.S k43 43 w' wi.heap.size (fun _ => True) (.slice A l.length c) (markL a l) ∧ Below wi.heap.size wi w' := by
  have HB := Aside0.mk hB
  have HS := Aside0.mk h
  have HU := Aside0.mk hu
  obtain ⟨n, hn⟩ : ∃ n, n = l.length := ⟨_, rfl⟩
  rw [← hn] at HS ⊢
  have HN := Aside0.mk hn
  have HL := Aside0.mk (show n ≤ 10000 by omega)
  obtain ⟨E, hE⟩ : ∃ E, E = endL a l := ⟨_, rfl⟩
  obtain ⟨M, hM⟩ : ∃ M, M = markL a l := ⟨_, rfl⟩
  rw [← hE] at ha ⊢
  rw [← hM]
  have HE := Aside0.mk hE.symm
  have HM := Aside0.mk hM.symm
  have HA := Aside0.mk ha
  have H0 := Aside0.mk h0
  clear hB h hu hn hE hM ha h0 hl
  go_enter Try.func11, Try.ntmps11
  go_wp2_with fail
  go_loopg [1, 5] (n + 1) (fun kq v1 v5 wr => ∃ (pre t : List S43) (a1 : Int), v1 = .int .i64 a1 ∧ v5 = .int .i64 (pre.length : Int) ∧ Aside0 (pre.length + t.length = n) ∧ Aside0 (n < pre.length + kq) ∧ Aside0 (kq ≤ n + 1) ∧ Aside0 (Kd.S k43 43 wr wi.heap.size (fun _ => True) (.slice A n c) (pre ++ t)) ∧ Aside0 (pre ++ markL a1 t = M) ∧ Aside0 (endL a1 t = E) ∧ Aside0 (∀ s ∈ t, s.f3.length ≤ 1048576) ∧ Aside0 (0 ≤ a1) ∧ Aside0 (Below wi.heap.size wi wr))
  case atStart => exact ⟨[], l, a, rfl, rfl, ⟨by simpa using HN.out.symm⟩, ⟨by simp⟩, ⟨Nat.le_refl _⟩, HS, HM, HE, HU, H0, HB⟩
  case round =>
    clear HS HM HE HU H0 HB HN
    obtain ⟨pre, t, a1, rfl, rfl, HN, HF, HF1, HS, HM, HE, HU, H0, HB⟩ := hrel
    cases gk with
    | zero => exact absurd HF.out (by have := HN.out; omega)
    | succ k1 =>
      cases t with
      | nil =>
        have hd : decide ((pre.length : Int) < (n : Int)) = false := decide_eq_false (by have := HN.out; simp at this; omega)
        have hdn : decide (pre.length < n) = false := decide_eq_false (by have := HN.out; simp at this; omega)
        have HM2 : Aside0 (pre = M) := ⟨by rw [← HM.out]; simp [markL]⟩
        have HE2 : Aside0 (a1 = E) := ⟨HE.out⟩
        go_wp2_with fail
        go_ret
        refine ⟨by rw [HE2.out]; rfl, ?_, HB.out⟩
        rw [← HM2.out]
        simpa using HS.out
      | cons s t =>
        have hd : decide ((pre.length : Int) < (n : Int)) = true := decide_eq_true (by have := HN.out; simp at this; omega)
        have hpn : pre.length < n := by have := HN.out; simp at this; omega
        obtain ⟨g, cap, he, hgb, _, _⟩ := Kd.N_form (Kd.S_N HS.out) (by simp; omega)
        injection he with hA hn2 hc2
        subst hA hc2
        clear hn2
        obtain ⟨oki, cs, hcl, hMM, hcc, hfr, hoki, hH⟩ := Kd.S_elem HS.out z43 (pre.length : Int) (by omega) (by omega)
        rw [getD_mid] at hMM
        obtain ⟨v3, rfl, hv3⟩ := k43_openM hMM
        have hsz : k43.sz = 4 := rfl
        rw [hsz, Int.toNat_natCast] at hcc hfr
        have x0 := hcc 0 _ rfl
        have x1 := hcc 1 _ rfl
        have x2 := hcc 2 _ rfl
        have x3 := hcc 3 _ rfl
        have f0 := hfr 0
        have f1 := hfr 1
        have f2 := hfr 2
        rw [Nat.add_zero] at x0 f0
        have HH := Aside0.mk hH
        have HV := Aside0.mk hv3
        have HK := Aside0.mk hoki
        clear hH hv3 hoki hcl hMM hcc hfr hsz
        have hlE := endL_ge t (a1 + 3 + s.f3.length)
        have hE' : endL (a1 + 3 + s.f3.length) t = E := HE.out
        have ha0 := H0.out
        have ha1 := HA.out
        have hw1 : IntKind.i64.wrap (a1 + 1) = a1 + 1 := by rw [IntKind.wrap_i64]; omega
        have hw2 : IntKind.i64.wrap (a1 + 1 + 1) = a1 + 2 := by rw [IntKind.wrap_i64]; omega
        have hw3 : IntKind.i64.wrap (a1 + 2 + 1) = a1 + 3 := by rw [IntKind.wrap_i64]; omega
        clear hlE
        have hs3 := HU.out s List.mem_cons_self
        obtain ⟨k3, hk3⟩ := (markb_ev s.f3 (a1 + 3) hs3 (by omega) (by have := endL_ge t (a1 + 3 + s.f3.length); omega)).rounds
        have HK3 := Aside0.mk hk3
        clear hk3
        go_wp2_with fail
        obtain ⟨W4, hW4⟩ : ∃ W4, W4 = ((wr.setCell ⟨g, pre.length * 4, none⟩ (.int .i64 a1)).setCell ⟨g, pre.length * 4 + 1, none⟩ (.int .i64 (a1 + 1))).setCell ⟨g, pre.length * 4 + 2, none⟩ (.int .i64 (a1 + 2)) := ⟨_, rfl⟩
        rw [← hW4]
        have hB4 : Below wi.heap.size wi W4 := by
          rw [hW4]
          exact ((HB.out.setCell (p := ⟨g, pre.length * 4, none⟩) hgb _).setCell (p := ⟨g, pre.length * 4 + 1, none⟩) hgb _).setCell (p := ⟨g, pre.length * 4 + 2, none⟩) hgb _
        have hV4 : Kd.R (Kd.int .u8) 5 W4 wi.heap.size oki v3 s.f3 := by
          refine Kd.R_move HV.out (fun k hk => ?_)
          have hne := (HK.out k hk).2
          rw [hW4, Below.heap_setCell _ _ _ _ hne, Below.heap_setCell _ _ _ _ hne, Below.heap_setCell _ _ _ _ hne]
        have hH4 := mark_hole HH.out (by omega) (by omega) a1 (a1 + 1) (a1 + 2)
        rw [← hW4] at hH4
        refine (laws_markByteS.calls k3 oki v3 s.f3 (a1 + 3) _ _ wi W4 hB4 hV4 HK3.out).mono ?_
        rintro e w5 ⟨rfl, hR5, hB5, hK5⟩
        have hS5 := Kd.H_back (Kd.H_step (Kd.H_widen hH4) (fun k _ hn hlt => hK5.2 k hlt (fun hk => hn (.inl hk)))) (k43_mkM w5 wi.heap.size _ (⟨a1, a1 + 1, a1 + 2, markB (a1 + 3) s.f3.length⟩ : S43) hR5) (fun k hk => hk.imp id (fun h => ⟨trivial, h⟩))
        obtain ⟨x, hx⟩ : ∃ x : S43, x = ⟨a1, a1 + 1, a1 + 2, markB (a1 + 3) s.f3.length⟩ := ⟨_, rfl⟩
        have e3 : (pre ++ s :: t).set ((pre.length : Int)).toNat x = (pre ++ [x]) ++ t := by
          rw [Int.toNat_natCast, List.set_append_right _ _ (Nat.le_refl _), Nat.sub_self, List.append_assoc]; rfl
        rw [← hx, e3] at hS5
        have hM5 : (pre ++ [x]) ++ markL (a1 + 3 + s.f3.length) t = M := by rw [← HM.out, markL, hx, List.append_assoc]; rfl
        have HS5 := Aside0.mk hS5
        have HM5 := Aside0.mk hM5
        have HB5 := Aside0.mk hB5
        have HE5 := Aside0.mk hE'
        have hlp : (pre ++ [x]).length = pre.length + 1 := by simp
        have hwn : IntKind.i64.wrap ((pre.length : Int) + 1) = (pre.length : Int) + 1 := by have := HL.out; rw [IntKind.wrap_i64]; omega
        clear hS5 hM5 hB5 hE' e3 hx hK5 hR5 hH4 hV4 hB4 hW4 x0 x1 x2 x3 f0 f1 f2 hw1 hw2 hw3
        go_wp2_with fail
        go_roundg k1
        case measure => have := HF1.out; omega
        case rel => exact ⟨pre ++ [x], t, a1 + 3 + s.f3.length, rfl, by rw [hlp]; simp, ⟨by have := HN.out; simp at this ⊢; omega⟩, ⟨by have := HF.out; rw [hlp]; omega⟩, ⟨by have := HF1.out; omega⟩, HS5, HM5, HE5, ⟨fun y hy => HU.out y (List.mem_cons_of_mem _ hy)⟩, ⟨by omega⟩, HB5⟩
end Go.Proofs.Ythofgkmfllccnaa.G
namespace Go.Proofs.Ythofgkmfllccnaa.G
open Go.RowKit Go.Proofs.YthofgkmfllccnaaW.PrintWords Go.Proofs.YthofgkmfllccnaaW.PrintLast Go.Proofs.YthofgkmfllccnaaW.PrintMore
set_option linter.unusedVariables false
set_option linter.unusedSimpArgs false
theorem toB_c {w : World} {A : Option Addr} {c : Nat} {l : List Int} (h : Kd.C (Kd.int .u8) w A l.length l) (hc : l.length ≤ c) (hl : l.length ≤ 1048576) :
    Calls Try.prog 6 #[.slice A l.length c] w fun e w' => ∃ A1 c1, e = .returned (.slice A1 l.length c1) ∧ l.length ≤ c1 ∧ Kd.R (Kd.int .u8) 5 w' w.heap.size (fun _ => True) (.slice A1 l.length c1) l ∧ Below w.heap.size w w' := by
  obtain ⟨k, hk⟩ := (tob_ev l hl).rounds
  refine (laws_toByteS.calls k A c l l w h hc hk).mono ?_
  rintro e w' ⟨v, rfl, ho, hb⟩
  obtain ⟨A1, c1, rfl⟩ := Kd.R_slice ho
  exact ⟨A1, c1, rfl, (Kd.R_reads' ho).2.1, ho, hb⟩
theorem eqB_c {w : World} {A A1 : Option Addr} {c c1 : Nat} {l : List Int} (h : Kd.C (Kd.int .u8) w A l.length l) (hc : l.length ≤ c) (h1 : Kd.C (Kd.int .u8) w A1 l.length l) (hc1 : l.length ≤ c1) (hl : l.length ≤ 1048576) :
    Calls Try.prog 9 #[.slice A l.length c, .slice A1 l.length c1] w fun e w' => e = .returned (.bool true) ∧ Below w.heap.size w w' := by
  obtain ⟨k, hk⟩ := (eqb_ev l hl).rounds
  refine (laws_eqByteS.calls k A c l A1 c1 l true w h hc h1 hc1 hk).mono ?_
  rintro e w' ⟨rfl, hd⟩
  exact ⟨rfl, drawn_b hd⟩
theorem eqS_c {w : World} {A A1 : Option Addr} {c c1 : Nat} {l : List S43} (h : Kd.C k43 w A l.length l) (hc : l.length ≤ c) (h1 : Kd.C k43 w A1 l.length l) (hc1 : l.length ≤ c1) (hl : l.length ≤ 10000) (hu : ∀ s ∈ l, s.f3.length ≤ 1048576) :
    Calls Try.prog 8 #[.slice A l.length c, .slice A1 l.length c1] w fun e w' => e = .returned (.bool true) ∧ Below w.heap.size w w' := by
  obtain ⟨k, hk⟩ := (eqsts_ev l (by omega) hu).rounds
  exact laws_eqStepS.calls k A c l A1 c1 l true w h hc h1 hc1 hk
theorem heldS_c {w : World} {A : Option Addr} {n c : Nat} {l : List S43} (hn : n = l.length) (h : Kd.C k43 w A n (markL 1 l)) (hc : n ≤ c) (hl : l.length ≤ 10000) (hu : ∀ s ∈ l, s.f3.length ≤ 1048576) (hE : endL 1 l ≤ 1152921504606846976) :
    Calls Try.prog 12 #[.slice A n c, .int .i64 1] w fun e w' => e = .returned (.int .i64 (endL 1 l)) ∧ Below w.heap.size w w' := by
  obtain ⟨k, hk⟩ := (helds_ev l 1 hu (by omega) (by omega) hE).rounds
  have e1 : n = (markL 1 l).length := by rw [markL_len, hn]
  subst e1
  refine (laws_heldStepS.calls k A c (markL 1 l) 1 _ w h hc hk).mono ?_
  rintro e w' ⟨rfl, hd⟩
  exact ⟨rfl, drawn_b hd⟩
theorem markB_c {wi w : World} {v : Value} {l : List Int} (hB : Below wi.heap.size wi w) (h : Kd.R (Kd.int .u8) 5 w wi.heap.size (fun k => some k = v.ownBlock) v l) (hl : l.length ≤ 1048576) :
    Calls Try.prog 10 #[v, .int .i64 1] w fun e w' => e = .returned (.int .i64 (1 + (l.length : Int))) ∧ Below wi.heap.size wi w' ∧ Kept w w' (fun k => some k = v.ownBlock) := by
  obtain ⟨k, hk⟩ := (markb_ev l 1 hl (by omega) (by omega)).rounds
  refine (laws_markByteS.calls k _ v l 1 _ _ wi w hB h hk).mono ?_
  rintro e w' ⟨rfl, _, hb, hk⟩
  exact ⟨rfl, hb, hk⟩
theorem spec_c {b : List Int} {L : List S43} {B : Bool} {A : Option Addr} {c : Nat} {w : World} (hL : looseF b = (L, B)) (hC : Kd.C (Kd.int .u8) w A b.length b) (hc : b.length ≤ c) (hb : Bytes b) (hl : b.length ≤ 1048576) :
    Calls Try.prog 5 #[.slice A b.length c] w fun e w' => ∃ A1 c1, e = .returned (.tuple #[.slice A1 L.length c1, .bool B]) ∧ L.length ≤ c1 ∧ Kd.C k43 w' A1 L.length L ∧ Below w.heap.size w w' := by
  have h := specRead_c hC hc hb hl
  rw [hL] at h
  exact h
theorem impl_c {b : List Int} {L : List S43} {B : Bool} {A : Option Addr} {c : Nat} {w : World} (hL : strictF b = (L, B)) (hC : Kd.C (Kd.int .u8) w A b.length b) (hc : b.length ≤ c) (hb : Bytes b) (hl : b.length ≤ 1048576) :
    Calls Try.prog 7 #[.slice A b.length c] w fun e w' => ∃ A1 c1, e = .returned (.tuple #[.slice A1 L.length c1, .bool B]) ∧ L.length ≤ c1 ∧ Kd.S k43 43 w' w.heap.size (fun _ => True) (.slice A1 L.length c1) L ∧ Below w.heap.size w w' := by
  refine (implRead_c hC hc hb hl).mono ?_
  rw [hL]
  rintro e w' ⟨v, rfl, ho, hb⟩
  obtain ⟨A1, c1, rfl⟩ := Kd.S_slice ho
  exact ⟨A1, c1, rfl, (Kd.S_reads' ho).2.1, ho, hb⟩
theorem loose_len (b : List Int) (hl : b.length ≤ 1048576) : (looseF b).1.length ≤ 10000 ∧ ∀ s ∈ (looseF b).1, s.f3.length ≤ 1048576 := by
  by_cases hh : b.take 4 = hdr
  · rw [loose_close hh]
    cases hs : steps (one2 b) b (b.length + 1) 4 [] with
    | none => exact ⟨Nat.zero_le _, fun s hs => absurd hs (by simp [closeF])⟩
    | some o =>
      obtain ⟨h1, ss, rfl, h2⟩ := loose_some _ _ _ _ (by simp) hs
      unfold closeF
      dsimp only
      split
      · exact ⟨h1, fun s hs => Nat.le_trans (h2 s (by simpa using hs)) hl⟩
      · exact ⟨Nat.zero_le _, fun s hs => absurd hs (by simp)⟩
  · unfold looseF
    rw [if_neg hh]
    exact ⟨Nat.zero_le _, fun s hs => absurd hs (by simp)⟩
set_option maxHeartbeats 8000000 in
set_option maxRecDepth 100000 in
theorem laws_FnExactReadDelta_walk (A0 : Option Addr) (c0 : Nat) (l0 : List Int) (w : World) (hr0 : Kd.C (Kd.int .u8) w A0 l0.length l0) (hc0 : l0.length ≤ c0) (hz0 : Bytes l0) :
    Calls Try.prog 3 #[.slice A0 l0.length c0] w fun e w' => e = .returned (.bool true) ∧ Below w.heap.size w w' := by
  by_cases hq : 1048576 < l0.length
  · have hd : decide (1048576 < (l0.length : Int)) = true := decide_eq_true (by omega)
    have hd1 : decide (1048576 < l0.length) = true := decide_eq_true hq
    go_enter Try.func3, Try.ntmps3
    go_wp2_with fail
    go_ret
    exact ⟨rfl, Below.refl _ _⟩
  have hd : decide (1048576 < (l0.length : Int)) = false := decide_eq_false (by omega)
  have hd1 : decide (1048576 < l0.length) = false := decide_eq_false hq
  have hl0 : l0.length ≤ 1048576 := by omega
  have HR0 := Aside0.mk hr0
  have HC0 := Aside0.mk hc0
  have HZ0 := Aside0.mk hz0
  have HL0 := Aside0.mk hl0
  clear hr0 hc0 hz0 hq
  obtain ⟨L, B, hLB⟩ : ∃ L B, looseF l0 = (L, B) := ⟨_, _, rfl⟩
  have hlen := loose_len l0 hl0
  have hLS : strictF l0 = (L, B) := by rw [← loose_strict HZ0.out hl0, hLB]
  rw [hLB] at hlen
  have hE := endL_le L 1 hlen.2
  have hE1 := endL_ge L 1
  have HE := Aside0.mk (show endL 1 L ≤ 1152921504606846976 by have := hlen.1; simp only at this; omega)
  have HLL : Aside0 (L.length ≤ 10000) := ⟨hlen.1⟩
  have HLU : Aside0 (∀ s ∈ L, s.f3.length ≤ 1048576) := ⟨hlen.2⟩
  have HSP := Aside0.mk hLB
  have HIM := Aside0.mk hLS
  clear hLB hLS hlen hE
  obtain ⟨E, hEE⟩ : ∃ E, E = endL 1 L := ⟨_, rfl⟩
  have hE0 : decide (E < 0) = false := decide_eq_false (by omega)
  have hk0 : decide (1 + (l0.length : Int) < 0) = false := decide_eq_false (by omega)
  have HEE := Aside0.mk hEE
  clear hEE hE1
  have HB := Aside0.mk (Below.refl w.heap.size w)
  go_enter Try.func3, Try.ntmps3
  go_wp2_with fail
  refine (toB_c HR0.out HC0.out HL0.out).mono ?_
  rintro e w1 ⟨At, ct, rfl, hct, hot, hb⟩
  have HB1 := Aside0.mk hb
  clear HB hb
  have HT := Aside0.mk (Kd.R_reads' hot).2.2
  have HTC := Aside0.mk hct
  clear hot hct
  go_wp2_with fail
  refine (spec_c HSP.out HT.out HTC.out HZ0.out HL0.out).mono ?_
  rintro e w2 ⟨Aw, cw, rfl, hcw, hw, hb⟩
  have HW := Aside0.mk hw
  have HWC := Aside0.mk hcw
  have HB2 := Aside0.mk (below_then HB1.out HB1.out.size hb)
  clear HB1 hb hw hcw HT HTC
  go_wp2_with fail
  refine (toB_c (Kd.C_below HR0.out HB2.out) HC0.out HL0.out).mono ?_
  rintro e w3 ⟨Ax, cx, rfl, hcx, hx, hb⟩
  have HX := Aside0.mk hx
  have HXC := Aside0.mk hcx
  have HP := Aside0.mk hb
  have HS3 := Aside0.mk hb.size
  clear hx hcx hb
  go_wp2_with fail
  refine (impl_c HIM.out (Kd.R_reads' HX.out).2.2 HXC.out HZ0.out HL0.out).mono ?_
  rintro e w4 ⟨Ag, cg, rfl, hcg, hg, hb⟩
  have hx3 := Kd.R_lt HX.out
  have HX3 := Aside0.mk hx3
  have HG := Aside0.mk hg
  have HGC := Aside0.mk hcg
  replace HX := Aside0.mk (Kd.R_below HX.out hb)
  replace HP := Aside0.mk (below_then HP.out HP.out.size hb)
  clear hg hcg hb hx3
  go_wp2_with fail
  refine (eqS_c (Kd.S_reads' HG.out).2.2 HGC.out (Kd.C_below HW.out HP.out) HWC.out HLL.out HLU.out).mono ?_
  rintro e w5 ⟨rfl, hb⟩
  replace HX := Aside0.mk (Kd.R_below HX.out hb)
  replace HG := Aside0.mk (Kd.S_below HG.out hb)
  replace HP := Aside0.mk (below_then HP.out HP.out.size hb)
  clear hb
  go_wp2_with fail
  refine (toB_c (Kd.C_below (Kd.C_below HR0.out HB2.out) HP.out) HC0.out HL0.out).mono ?_
  rintro e w6 ⟨At, ct, rfl, hct, hot, hb⟩
  replace HX := Aside0.mk (Kd.R_below HX.out hb)
  replace HG := Aside0.mk (Kd.S_below HG.out hb)
  replace HP := Aside0.mk (below_then HP.out HP.out.size hb)
  have HT := Aside0.mk (Kd.R_reads' hot).2.2
  have HTC := Aside0.mk hct
  clear hb hot hct
  go_wp2_with fail
  refine (eqB_c (Kd.R_reads' HX.out).2.2 HXC.out HT.out HTC.out HL0.out).mono ?_
  rintro e w7 ⟨rfl, hb⟩
  replace HX := Aside0.mk (Kd.R_below HX.out hb)
  replace HG := Aside0.mk (Kd.S_below HG.out hb)
  replace HP := Aside0.mk (below_then HP.out HP.out.size hb)
  clear hb HT HTC
  go_wp2_with fail
  refine (markB_c HP.out (Kd.R_tight rfl HX.out) HL0.out).mono ?_
  rintro e w8 ⟨rfl, hb, hk⟩
  have hG8 : Kd.S k43 43 w8 w2.heap.size (fun _ => True) (.slice Ag L.length cg) L := by
    refine Kd.S_mono (Kd.S_lower (Kd.S_step (Kd.S_bound HG.out) (fun k hok hlt => hk.2 k hlt (fun he => ?_))) HS3.out) (fun _ _ => trivial)
    have h1 := HX3.out k he.symm
    have h2 := hok.2.1
    omega
  replace HG := Aside0.mk hG8
  replace HP := Aside0.mk hb
  clear hb hk hG8 HX HX3 HS3
  go_wp2_with fail
  refine (eqS_c (Kd.S_reads' HG.out).2.2 HGC.out (Kd.C_below HW.out HP.out) HWC.out HLL.out HLU.out).mono ?_
  rintro e w9 ⟨rfl, hb⟩
  replace HG := Aside0.mk (Kd.S_below HG.out hb)
  replace HP := Aside0.mk (below_then HP.out HP.out.size hb)
  clear hb
  go_wp2_with fail
  refine (markStepS_c HP.out HG.out HLU.out HLL.out (by omega) HE.out).mono ?_
  rintro e w10 ⟨rfl, hg, hb⟩
  rw [← HEE.out]
  have HM := Aside0.mk (Kd.S_reads' hg).2.2
  replace HP := Aside0.mk hb
  clear hg hb HG
  rw [markL_len] at HM
  go_wp2_with fail
  refine (heldS_c rfl HM.out HGC.out HLL.out HLU.out HE.out).mono ?_
  rintro e w11 ⟨rfl, hb⟩
  rw [← HEE.out]
  replace HM := Aside0.mk (Kd.C_below HM.out hb)
  replace HP := Aside0.mk (below_then HP.out HP.out.size hb)
  clear hb
  go_wp2_with fail
  refine (toB_c (Kd.C_below (Kd.C_below HR0.out HB2.out) HP.out) HC0.out HL0.out).mono ?_
  rintro e w12 ⟨At, ct, rfl, hct, hot, hb⟩
  replace HM := Aside0.mk (Kd.C_below HM.out hb)
  replace HP := Aside0.mk (below_then HP.out HP.out.size hb)
  have HT := Aside0.mk (Kd.R_reads' hot).2.2
  have HTC := Aside0.mk hct
  clear hb hot hct
  go_wp2_with fail
  refine (impl_c HIM.out HT.out HTC.out HZ0.out HL0.out).mono ?_
  rintro e w13 ⟨Ah, ch, rfl, hch, hh, hb⟩
  have HH := Aside0.mk (Kd.S_reads' hh).2.2
  have HHC := Aside0.mk hch
  replace HM := Aside0.mk (Kd.C_below HM.out hb)
  replace HP := Aside0.mk (below_then HP.out HP.out.size hb)
  clear hb hh hch HT HTC
  go_wp2_with fail
  refine (eqS_c HH.out HHC.out (Kd.C_below HW.out HP.out) HWC.out HLL.out HLU.out).mono ?_
  rintro e w14 ⟨rfl, hb⟩
  replace HM := Aside0.mk (Kd.C_below HM.out hb)
  replace HP := Aside0.mk (below_then HP.out HP.out.size hb)
  clear hb HH HHC
  go_wp2_with fail
  refine (heldS_c rfl HM.out HGC.out HLL.out HLU.out HE.out).mono ?_
  rintro e w15 ⟨rfl, hb⟩
  rw [← HEE.out]
  replace HP := Aside0.mk (below_then HP.out HP.out.size hb)
  clear hb
  go_wp2_with fail
  go_ret
  exact ⟨rfl, below_then HB2.out HB2.out.size HP.out⟩
end Go.Proofs.Ythofgkmfllccnaa.G
namespace Go.Proofs.Ythofgkmfllccnaa.G
open Go.RowKit Go.Proofs.YthofgkmfllccnaaW.PrintWords
set_option linter.unusedVariables false
def byteOk (z : Int) : Prop := 0 ≤ z ∧ z ≤ 255
section
variable {H : Type} {enc : TypeId × Value → H} {w : World} {base : Nat} {spare : Nat → Bool} {held : Bool}
theorem opens_bytes : Opens enc Try.prog w base spare held 22 (Kd.slice 5 (Kd.int .u8)) (fun l => l.length ≤ 9223372036854775807 ∧ ∀ a ∈ l, byteOk a) := by
  intro n cs x h
  obtain ⟨l, hk, hl, hz⟩ := opens_slice Try.underlying22 (by kernel_rfl) (opens_int Try.underlying5) n cs x h
  refine ⟨l, hk, hl, fun a ha => ?_⟩
  have := hz a ha
  unfold Lit.wf at this
  simp only [Bool.and_eq_true, decide_eq_true_eq] at this
  exact this
end
end Go.Proofs.Ythofgkmfllccnaa.G
