/-
  Part 5 of the texts of this claim: GSpecStartOrder, XPureOrder, XPlanPlain, GImplStartOrder28, XExStartOrder.
-/
import Derived.Test.YtnjmhlhlmokjnaaExS4
namespace Go.Proofs.Ytnjmhlhlmokjnaa.G
open Go.RowKit Go.Proofs.YtnjmhlhlmokjnaaW.PrintWords Go.Proofs.YtnjmhlhlmokjnaaW.PrintLast Go.Proofs.YtnjmhlhlmokjnaaW.PrintMore
attribute [local go_sem] max2_int min2_int max_two min_two max_three min_three max_four min_four
set_option linter.unusedVariables false
set_option linter.unusedSimpArgs false
mutual
def spec_StartOrder.l0 : Nat → List (S32) → List ByteArray → Int → Option (List ByteArray × Bool)
  | 0, _, _, _ => none
  | k + 1, x0, x4, x5 => if x5 < (x0.length : Int) then (spec_StartOrder.l1 k x0 x4 x5 0) else (some (x4, ((x4.length : Int) == (x0.length : Int))))
def spec_StartOrder.l1 : Nat → List (S32) → List ByteArray → Int → Int → Option (List ByteArray × Bool)
  | 0, _, _, _, _ => none
  | k + 1, x0, x4, x5, x6 => if x6 < (x0.length : Int) then (if 0 ≤ x6 then ((spec_l3Has.f k x4 ((rd_T32 x0 x6).f0)).bind fun t131 => (if t131 = true then (spec_StartOrder.l1 k x0 x4 x5 (wrap64 (x6 + 1))) else ((spec_l18Ready.f k x0 ((rd_T32 x0 x6).f0) ((rd_T32 x0 x6).f1) ((rd_T32 x0 x6).f2) ((rd_T32 x0 x6).f3) ((rd_T32 x0 x6).f4) x4).bind fun t133 => (if t133 = true then (if x4.length < 8796093022208 then (spec_StartOrder.l0 k x0 (x4 ++ [(rd_T32 x0 x6).f0]) (wrap64 (x5 + 1))) else (none)) else (spec_StartOrder.l1 k x0 x4 x5 (wrap64 (x6 + 1))))))) else (none)) else (spec_StartOrder.l0 k x0 x4 (wrap64 (x5 + 1)))
end
def spec_StartOrder.f (k : Nat) (l0 : List (S32)) : Option (List ByteArray × Bool) := (some (([] : List ByteArray) : List ByteArray)).bind fun y126 => ((spec_UnitsOk.f l0).bind fun t129 => (if t129 = true then (spec_StartOrder.l0 k l0 y126 0) else (some (y126, false))))
set_option maxHeartbeats 8000000 in
set_option maxRecDepth 100000 in
theorem spec_StartOrder.calls (k : Nat) (A0 : Option Addr) (c0 : Nat) (l0 : List (S32)) (r1 : List ByteArray) (r2 : Bool) (w : World) (hr0 : Kd.C k32 w A0 l0.length l0) (hc0 : l0.length ≤ c0) (h : spec_StartOrder.f k l0 = some (r1, r2)) :
    Calls Try.prog 27 #[.slice A0 l0.length c0] w fun e w' => ∃ v0_ : Value, e = .returned (.tuple #[v0_, .bool r2]) ∧ Kd.R Kd.string 9 w' w.heap.size (fun _ => True) v0_ r1 ∧ Below w.heap.size w w' := by
  have hu32 := Try.underlying32
  have HR0 := Aside0.mk hr0
  have HC0 := Aside0.mk hc0
  clear hr0 hc0
  have HB := Aside0.mk (Below.refl w.heap.size w)
  have H : ((some (([] : List ByteArray) : List ByteArray)).bind fun y126 => ((spec_UnitsOk.f l0).bind fun t129 => (if t129 = true then (spec_StartOrder.l0 k l0 y126 0) else (some (y126, false))))) = some (r1, r2) := h
  clear h
  obtain ⟨y126, hy126⟩ : ∃ y_ : List ByteArray, y_ = (([] : List ByteArray)) := ⟨_, rfl⟩
  replace H : ((spec_UnitsOk.f l0).bind fun t129 => (if t129 = true then (spec_StartOrder.l0 k l0 y126 0) else (some (y126, false)))) = some (r1, r2) := by first | (rw [hy126]; with_reducible exact H) | (have H2_ := (Option.bind_some _ _).symm.trans H; rw [hy126]; with_reducible exact H2_) | (have H2_ := (Option.bind_some _ _).symm.trans H; with_reducible exact H2_) | with_reducible exact H | (rw [hy126]; exact H) | exact H
  have Ny126 := Aside0.mk hy126
  clear hy126
  replace H := Option.bind_eq_some_iff.mp H
  obtain ⟨t129, A20, H⟩ := H
  replace H : (if t129 = true then (spec_StartOrder.l0 k l0 y126 0) else (some (y126, false))) = some (r1, r2) := H
  have A2 := Aside0.mk A20
  clear A20
  by_cases c3 : t129 = true
  · subst c3
    have H1 : (spec_StartOrder.l0 k l0 y126 0) = some (r1, r2) := by rw [if_pos rfl] at H; exact H
    clear H
    have H := H1
    clear H1
    have H' := Aside0.mk H
    clear H
    go_enter Try.func27, Try.ntmps27
    go_wp2_with (first | ((with_reducible refine gate_dst (N := 7) rfl ?_); refine Kd.R_lit Kd.string _ 9 ?hg (N := 7) ?hd (xs := ([] : List ByteArray)) (inner := []) (ok := fun _ => True) (okp := fun _ => True) ?hr ?hp (fun _ hk => hk) trivial (Below.refl _ _) (Nat.le_refl _) (by simp) ?_; (case hd => rfl); (case hg => rfl); (case hr => first | (go_simp; done) | (go_simp; rfl)); (case hp => exact (Reps.none _ _)); intro v127 w4 ho5 hb hg_ hnew_; clear hg_ hnew_; (first | rw [← Ny126.out] at ho5 | (simp only [Int.reduceToNat] at ho5; rw [← Ny126.out] at ho5)); have n0_ := Aside0.mk (Kd.R_lower ho5 (below_size (by repeat (first | (with_reducible first | exact HB.out | apply below_alloc | apply pw_below_drewN | apply below_drew1) | exact HB.out)))); have n1_ := Aside0.mk (below_step (by repeat (first | (with_reducible first | exact HB.out | apply below_alloc | apply pw_below_drewN | apply below_drew1) | exact HB.out)) hb); clear HB; have HO128 := n0_; have HB := n1_; clear n0_ n1_; clear hb ho5) | ((with_reducible refine gate_callee (f := 13) rfl ?_); refine goesL_ (some 9) rfl rfl Try.func13 (by kernel_rfl) rfl #[.slice A0 l0.length c0] rfl (by (try simp only [List.map_toArray, List.map_cons, List.map_nil]); first | done | rfl | (simp only [List.length_drop, List.length_take]; rfl)) ?_; (with_reducible refine (spec_UnitsOk.calls _ _ l0 true _ ?side1 ?side2 A2.out).mono ?_); (case side1 => repeat (first | exact (Kd.C_below HR0.out HB.out) | (with_reducible refine Kd.C_alloc ?_ _) | (with_reducible refine Kd.C_drewN ?_ _) | (with_reducible refine Kd.C_drew ?_))); (case side2 => exact HC0.out); rintro e w6 ⟨rfl, hb⟩; refine ⟨_, rfl, ?_⟩; have n0_ := Aside0.mk (Kd.R_below (by (with_reducible repeat (first | apply Kd.R_alloc | apply Kd.R_drewN | apply Kd.R_drew)); exact HO128.out) hb); have n1_ := Aside0.mk (below_step (by repeat (first | (with_reducible first | exact HB.out | apply below_alloc | apply pw_below_drewN | apply below_drew1) | exact HB.out)) hb); clear HO128; clear HB; have HO128 := n0_; have HB := n1_; clear n0_ n1_; (try clear hb); (try clear hb2); (try clear hk); (try clear hi)))
    go_loopg [4, 5] k (fun kq v4 v5 w' => ∃ (x4_1 : List ByteArray) (x5_1 : Int), v5 = .int .i64 x5_1 ∧ Aside0 (spec_StartOrder.l0 kq l0 x4_1 x5_1 = some (r1, r2)) ∧ Aside0 (kq ≤ k) ∧ Aside0 (Kd.R Kd.string 9 w' w.heap.size (fun _ => True) v4 x4_1) ∧ Aside0 (Below w.heap.size w w'))
    case atStart => exact ⟨(y126), (0), (by first | rfl | (simp; done) | (simp [*]; done)), H', ⟨Nat.le_refl _⟩, ⟨by (with_reducible repeat (first | apply Kd.R_alloc | apply Kd.R_drewN | apply Kd.R_drew)); exact HO128.out⟩, ⟨by repeat (first | (with_reducible first | exact HB.out | apply below_alloc | apply pw_below_drewN | apply below_drew1) | exact HB.out)⟩⟩
    case round =>
      clear H'
      try clear c1
      try clear c2
      try clear p2
      try clear c3
      obtain ⟨x4_1, x5_1, rfl, HA, HK1, HO_4, HB⟩ := hrel
      cases gk with
      | zero => exact absurd HA.out (by simp [spec_StartOrder.l0])
      | succ k1 =>
        have H := HA.out
        clear HA
        simp only [spec_StartOrder.l0] at H
        by_cases c7 : x5_1 < (l0.length : Int)
        · rw [if_pos c7] at H
          have c7b0 : decide (x5_1 < (l0.length : Int)) = true := decide_eq_true c7
          clear c7
          have H' := Aside0.mk H
          clear H
          go_wp2
          go_loopg [4, 6] k1 (fun kq v4 v6 w' => ∃ (x4_2 : List ByteArray) (x6_2 : Int), v6 = .int .i64 x6_2 ∧ Aside0 (spec_StartOrder.l1 kq l0 x4_2 x5_1 x6_2 = some (r1, r2)) ∧ Aside0 (kq ≤ k1) ∧ Aside0 (Kd.R Kd.string 9 w' w.heap.size (fun _ => True) v4 x4_2) ∧ Aside0 (Below w.heap.size w w'))
          case atStart => exact ⟨(x4_1), (0), (by first | rfl | (simp; done) | (simp [*]; done)), H', ⟨Nat.le_refl _⟩, ⟨by (with_reducible repeat (first | apply Kd.R_alloc | apply Kd.R_drewN | apply Kd.R_drew)); exact HO_4.out⟩, ⟨by repeat (first | (with_reducible first | exact HB.out | apply below_alloc | apply pw_below_drewN | apply below_drew1) | exact HB.out)⟩⟩
          case round =>
            clear H'
            try clear c1
            try clear c2
            try clear p2
            try clear c3
            try clear c7
            try clear c7b0
            try clear p2
            obtain ⟨x4_2, x6_2, rfl, HA, HK2, HO_4, HB⟩ := hrel
            cases gk with
            | zero => exact absurd HA.out (by simp [spec_StartOrder.l1])
            | succ k2 =>
              have H := HA.out
              clear HA
              simp only [spec_StartOrder.l1] at H
              by_cases c8 : x6_2 < (l0.length : Int)
              · rw [if_pos c8] at H
                have c8b0 : decide (x6_2 < (l0.length : Int)) = true := decide_eq_true c8
                clear c8
                by_cases c9 : 0 ≤ x6_2
                · rw [if_pos c9] at H
                  have c9b0 : decide (0 ≤ x6_2) = true := decide_eq_true c9
                  clear c9
                  replace H := Option.bind_eq_some_iff.mp H
                  obtain ⟨t131, A100, H⟩ := H
                  replace H : (if t131 = true then (spec_StartOrder.l1 k2 l0 x4_2 x5_1 (wrap64 (x6_2 + 1))) else ((spec_l18Ready.f k2 l0 ((rd_T32 l0 x6_2).f0) ((rd_T32 l0 x6_2).f1) ((rd_T32 l0 x6_2).f2) ((rd_T32 l0 x6_2).f3) ((rd_T32 l0 x6_2).f4) x4_2).bind fun t133 => (if t133 = true then (if x4_2.length < 8796093022208 then (spec_StartOrder.l0 k2 l0 (x4_2 ++ [(rd_T32 l0 x6_2).f0]) (wrap64 (x5_1 + 1))) else (none)) else (spec_StartOrder.l1 k2 l0 x4_2 x5_1 (wrap64 (x6_2 + 1)))))) = some (r1, r2) := H
                  have A10 := Aside0.mk A100
                  clear A100
                  by_cases c11 : t131 = true
                  · subst c11
                    have H1 : (spec_StartOrder.l1 k2 l0 x4_2 x5_1 (wrap64 (x6_2 + 1))) = some (r1, r2) := by rw [if_pos rfl] at H; exact H
                    clear H
                    have H := H1
                    clear H1
                    have H' := Aside0.mk H
                    clear H
                    have p130 : 0 ≤ (x6_2 : Int) := of_decide_eq_true (by first | (with_reducible assumption) | assumption)
                    have q130 : x6_2 < (l0.length : Int) := of_decide_eq_true (by first | (with_reducible assumption) | assumption)
                    obtain ⟨ad130, A130_1, c130_1, A130_2, c130_2, e130, hx130_0, hx130_1, hx130_2, hx130_3, hx130_4, hl130_1, hi130_1, hl130_2, hi130_2⟩ := at_T32 HR0.out x6_2 p130 q130
                    cases e130
                    replace hx130_0 := (HB.out.cell (World.block_lt_of_cell? w _ hx130_0)).trans hx130_0
                    replace hx130_1 := (HB.out.cell (World.block_lt_of_cell? w _ hx130_1)).trans hx130_1
                    replace hx130_2 := (HB.out.cell (World.block_lt_of_cell? w _ hx130_2)).trans hx130_2
                    replace hx130_3 := (HB.out.cell (World.block_lt_of_cell? w _ hx130_3)).trans hx130_3
                    replace hx130_4 := (HB.out.cell (World.block_lt_of_cell? w _ hx130_4)).trans hx130_4
                    have HR130_1 := Aside0.mk hi130_1
                    have HC130_1 := Aside0.mk hl130_1
                    clear hi130_1 hl130_1
                    have HR130_2 := Aside0.mk hi130_2
                    have HC130_2 := Aside0.mk hl130_2
                    clear hi130_2 hl130_2
                    replace p130 := eq_true p130
                    replace q130 := eq_true q130
                    obtain ⟨Ao12, co12, eo12⟩ := Kd.R_slice HO_4.out
                    subst eo12
                    go_wp2_with (first | ((with_reducible refine gate_callee (f := 51) rfl ?_); refine goesL_ (some 30) rfl rfl Try.func51 (by kernel_rfl) rfl #[.slice Ao12 x4_2.length co12, .string ((rd_T32 l0 x6_2).f0)] rfl (by (try simp only [List.map_toArray, List.map_cons, List.map_nil]); first | done | rfl | (simp only [List.length_drop, List.length_take]; rfl)) ?_; (with_reducible refine (spec_l3Has.calls k2 _ _ x4_2 ((rd_T32 l0 x6_2).f0) true _ ?side1 ?side2 A10.out).mono ?_); (case side1 => repeat (first | exact (Kd.R_reads' HO_4.out).2.2 | (with_reducible refine Kd.C_alloc ?_ _) | (with_reducible refine Kd.C_drewN ?_ _) | (with_reducible refine Kd.C_drew ?_))); (case side2 => exact (Kd.R_reads' HO_4.out).2.1); rintro e w' ⟨rfl, ⟨nd, rfl⟩⟩; refine ⟨_, rfl, ?_⟩))
                    go_roundg k2
                    case measure => have := HK1.out; have := HK2.out; omega
                    case rel => exact ⟨(x4_2), (wrap64 (x6_2 + 1)), (by first | rfl | (simp; done) | (simp [*]; done)), H', ⟨by have := HK1.out; have := HK2.out; omega⟩, ⟨by (with_reducible repeat (first | apply Kd.R_alloc | apply Kd.R_drewN | apply Kd.R_drew)); exact HO_4.out⟩, ⟨by repeat (first | (with_reducible first | exact HB.out | apply below_alloc | apply pw_below_drewN | apply below_drew1) | exact HB.out)⟩⟩
                  · replace c11 := Bool.eq_false_iff.mpr c11
                    subst c11
                    have H1 : ((spec_l18Ready.f k2 l0 ((rd_T32 l0 x6_2).f0) ((rd_T32 l0 x6_2).f1) ((rd_T32 l0 x6_2).f2) ((rd_T32 l0 x6_2).f3) ((rd_T32 l0 x6_2).f4) x4_2).bind fun t133 => (if t133 = true then (if x4_2.length < 8796093022208 then (spec_StartOrder.l0 k2 l0 (x4_2 ++ [(rd_T32 l0 x6_2).f0]) (wrap64 (x5_1 + 1))) else (none)) else (spec_StartOrder.l1 k2 l0 x4_2 x5_1 (wrap64 (x6_2 + 1))))) = some (r1, r2) := by rw [if_neg (show ¬ (false = true) by decide)] at H; exact H
                    clear H
                    have H := H1
                    clear H1
                    replace H := Option.bind_eq_some_iff.mp H
                    obtain ⟨t133, A130, H⟩ := H
                    replace H : (if t133 = true then (if x4_2.length < 8796093022208 then (spec_StartOrder.l0 k2 l0 (x4_2 ++ [(rd_T32 l0 x6_2).f0]) (wrap64 (x5_1 + 1))) else (none)) else (spec_StartOrder.l1 k2 l0 x4_2 x5_1 (wrap64 (x6_2 + 1)))) = some (r1, r2) := H
                    have A13 := Aside0.mk A130
                    clear A130
                    by_cases c14 : t133 = true
                    · subst c14
                      have H1 : (if x4_2.length < 8796093022208 then (spec_StartOrder.l0 k2 l0 (x4_2 ++ [(rd_T32 l0 x6_2).f0]) (wrap64 (x5_1 + 1))) else (none)) = some (r1, r2) := by rw [if_pos rfl] at H; exact H
                      clear H
                      have H := H1
                      clear H1
                      by_cases c15 : x4_2.length < 8796093022208
                      · rw [if_pos c15] at H
                        have LMc15 := Aside0.mk c15
                        clear c15
                        obtain ⟨y135, hy135⟩ : ∃ y_ : List ByteArray, y_ = (x4_2 ++ [(rd_T32 l0 x6_2).f0]) := ⟨_, rfl⟩
                        replace H : (spec_StartOrder.l0 k2 l0 y135 (wrap64 (x5_1 + 1))) = some (r1, r2) := by first | (rw [hy135]; with_reducible exact H) | (have H2_ := (Option.bind_some _ _).symm.trans H; rw [hy135]; with_reducible exact H2_) | (have H2_ := (Option.bind_some _ _).symm.trans H; with_reducible exact H2_) | with_reducible exact H | (rw [hy135]; exact H) | exact H
                        have Ny135 := Aside0.mk hy135
                        clear hy135
                        have H' := Aside0.mk H
                        clear H
                        have p130 : 0 ≤ (x6_2 : Int) := of_decide_eq_true (by first | (with_reducible assumption) | assumption)
                        have q130 : x6_2 < (l0.length : Int) := of_decide_eq_true (by first | (with_reducible assumption) | assumption)
                        obtain ⟨ad130, A130_1, c130_1, A130_2, c130_2, e130, hx130_0, hx130_1, hx130_2, hx130_3, hx130_4, hl130_1, hi130_1, hl130_2, hi130_2⟩ := at_T32 HR0.out x6_2 p130 q130
                        cases e130
                        replace hx130_0 := (HB.out.cell (World.block_lt_of_cell? w _ hx130_0)).trans hx130_0
                        replace hx130_1 := (HB.out.cell (World.block_lt_of_cell? w _ hx130_1)).trans hx130_1
                        replace hx130_2 := (HB.out.cell (World.block_lt_of_cell? w _ hx130_2)).trans hx130_2
                        replace hx130_3 := (HB.out.cell (World.block_lt_of_cell? w _ hx130_3)).trans hx130_3
                        replace hx130_4 := (HB.out.cell (World.block_lt_of_cell? w _ hx130_4)).trans hx130_4
                        have HR130_1 := Aside0.mk hi130_1
                        have HC130_1 := Aside0.mk hl130_1
                        clear hi130_1 hl130_1
                        have HR130_2 := Aside0.mk hi130_2
                        have HC130_2 := Aside0.mk hl130_2
                        clear hi130_2 hl130_2
                        replace p130 := eq_true p130
                        replace q130 := eq_true q130
                        obtain ⟨Ao16, co16, eo16⟩ := Kd.R_slice HO_4.out
                        subst eo16
                        go_wp2_with (first | ((with_reducible refine gate_callee (f := 51) rfl ?_); refine goesL_ (some 30) rfl rfl Try.func51 (by kernel_rfl) rfl #[.slice Ao16 x4_2.length co16, .string ((rd_T32 l0 x6_2).f0)] rfl (by (try simp only [List.map_toArray, List.map_cons, List.map_nil]); first | done | rfl | (simp only [List.length_drop, List.length_take]; rfl)) ?_; (with_reducible refine (spec_l3Has.calls k2 _ _ x4_2 ((rd_T32 l0 x6_2).f0) false _ ?side1 ?side2 A10.out).mono ?_); (case side1 => repeat (first | exact (Kd.R_reads' HO_4.out).2.2 | (with_reducible refine Kd.C_alloc ?_ _) | (with_reducible refine Kd.C_drewN ?_ _) | (with_reducible refine Kd.C_drew ?_))); (case side2 => exact (Kd.R_reads' HO_4.out).2.1); rintro e w' ⟨rfl, ⟨nd, rfl⟩⟩; refine ⟨_, rfl, ?_⟩; have p132 : 0 ≤ (x6_2 : Int) := of_decide_eq_true (by first | (with_reducible assumption) | assumption); have q132 : x6_2 < (l0.length : Int) := of_decide_eq_true (by first | (with_reducible assumption) | assumption); obtain ⟨ad132, A132_1, c132_1, A132_2, c132_2, e132, hx132_0, hx132_1, hx132_2, hx132_3, hx132_4, hl132_1, hi132_1, hl132_2, hi132_2⟩ := at_T32 HR0.out x6_2 p132 q132; obtain rfl : ad130 = ad132 := (by injection e132); replace hx132_0 := (HB.out.cell (World.block_lt_of_cell? w _ hx132_0)).trans hx132_0; replace hx132_1 := (HB.out.cell (World.block_lt_of_cell? w _ hx132_1)).trans hx132_1; replace hx132_2 := (HB.out.cell (World.block_lt_of_cell? w _ hx132_2)).trans hx132_2; replace hx132_3 := (HB.out.cell (World.block_lt_of_cell? w _ hx132_3)).trans hx132_3; replace hx132_4 := (HB.out.cell (World.block_lt_of_cell? w _ hx132_4)).trans hx132_4; have HR132_1 := Aside0.mk hi132_1; have HC132_1 := Aside0.mk hl132_1; clear hi132_1 hl132_1; have HR132_2 := Aside0.mk hi132_2; have HC132_2 := Aside0.mk hl132_2; clear hi132_2 hl132_2; replace p132 := eq_true p132; replace q132 := eq_true q132; have ea_ := Option.some.inj (hx130_1.symm.trans hx132_1); injection ea_ with ea_ en_ ec_; subst ea_; subst ec_; clear en_; have ea_ := Option.some.inj (hx130_2.symm.trans hx132_2); injection ea_ with ea_ en_ ec_; subst ea_; subst ec_; clear en_) | (go_at_call 58; (with_reducible refine (spec_l18Ready.calls k2 _ _ l0 ((rd_T32 l0 x6_2).f0) _ _ ((rd_T32 l0 x6_2).f1) _ _ ((rd_T32 l0 x6_2).f2) ((rd_T32 l0 x6_2).f3) ((rd_T32 l0 x6_2).f4) _ _ x4_2 true _ ?side1 ?side2 ?side3 ?side4 ?side5 ?side6 ?side7 ?side8 A13.out).mono ?_); (case side1 => repeat (first | exact (Kd.C_below HR0.out (by repeat (first | (with_reducible first | exact HB.out | apply below_alloc | apply pw_below_drewN | apply below_drew1) | exact HB.out))) | (with_reducible refine Kd.C_alloc ?_ _) | (with_reducible refine Kd.C_drewN ?_ _) | (with_reducible refine Kd.C_drew ?_))); (case side2 => exact HC0.out); (case side3 => repeat (first | exact (Kd.C_below HR132_1.out (by repeat (first | (with_reducible first | exact HB.out | apply below_alloc | apply pw_below_drewN | apply below_drew1) | exact HB.out))) | (with_reducible refine Kd.C_alloc ?_ _) | (with_reducible refine Kd.C_drewN ?_ _) | (with_reducible refine Kd.C_drew ?_))); (case side4 => exact HC132_1.out); (case side5 => repeat (first | exact (Kd.C_below HR132_2.out (by repeat (first | (with_reducible first | exact HB.out | apply below_alloc | apply pw_below_drewN | apply below_drew1) | exact HB.out))) | (with_reducible refine Kd.C_alloc ?_ _) | (with_reducible refine Kd.C_drewN ?_ _) | (with_reducible refine Kd.C_drew ?_))); (case side6 => exact HC132_2.out); (case side7 => repeat (first | exact (Kd.R_reads' HO_4.out).2.2 | (with_reducible refine Kd.C_alloc ?_ _) | (with_reducible refine Kd.C_drewN ?_ _) | (with_reducible refine Kd.C_drew ?_))); (case side8 => exact (Kd.R_reads' HO_4.out).2.1); rintro e w17 ⟨rfl, hb⟩; have n0_ := Aside0.mk (Kd.R_below (by (with_reducible repeat (first | apply Kd.R_alloc | apply Kd.R_drewN | apply Kd.R_drew)); exact HO_4.out) hb); have n1_ := Aside0.mk (below_step (by repeat (first | (with_reducible first | exact HB.out | apply below_alloc | apply pw_below_drewN | apply below_drew1) | exact HB.out)) hb); clear HO_4; clear HB; have HO_4 := n0_; have HB := n1_; clear n0_ n1_; (try clear hb); (try clear hb2); (try clear hk); (try clear hi); have p134 : 0 ≤ (x6_2 : Int) := of_decide_eq_true (by first | (with_reducible assumption) | assumption); have q134 : x6_2 < (l0.length : Int) := of_decide_eq_true (by first | (with_reducible assumption) | assumption); obtain ⟨ad134, A134_1, c134_1, A134_2, c134_2, e134, hx134_0, hx134_1, hx134_2, hx134_3, hx134_4, hl134_1, hi134_1, hl134_2, hi134_2⟩ := at_T32 HR0.out x6_2 p134 q134; obtain rfl : ad130 = ad134 := (by injection e134); replace hx134_0 := (HB.out.cell (World.block_lt_of_cell? w _ hx134_0)).trans hx134_0; replace hx134_1 := (HB.out.cell (World.block_lt_of_cell? w _ hx134_1)).trans hx134_1; replace hx134_2 := (HB.out.cell (World.block_lt_of_cell? w _ hx134_2)).trans hx134_2; replace hx134_3 := (HB.out.cell (World.block_lt_of_cell? w _ hx134_3)).trans hx134_3; replace hx134_4 := (HB.out.cell (World.block_lt_of_cell? w _ hx134_4)).trans hx134_4; have HR134_1 := Aside0.mk hi134_1; have HC134_1 := Aside0.mk hl134_1; clear hi134_1 hl134_1; have HR134_2 := Aside0.mk hi134_2; have HC134_2 := Aside0.mk hl134_2; clear hi134_2 hl134_2; replace p134 := eq_true p134; replace q134 := eq_true q134) | ((with_reducible refine gate_builtin (b := .append) (xs := #[.tmp 41, .tmp 47]) rfl ?_); at_builtin; refine Kd.R_append Kd.string (w0 := w) w.heap.size rfl (.tmp 41) (.tmp 47) 25 9 (.string ⟨#[]⟩) 16 rfl Try.underlying25 info9 rfl (by decide) (by omega) (.slice Ao16 x4_2.length co16) x4_2 ((rd_T32 l0 x6_2).f0) [.string ((rd_T32 l0 x6_2).f0)] (fun _ => True) (fun _ => False) rfl rfl ?aP (fun _ hk => hk.elim) ?aF ?aO ?aB ?aS ?aL ?_; (case aP => exact rfl); (case aB => exact (by repeat (first | (with_reducible first | exact HB.out | apply below_alloc | apply pw_below_drewN | apply below_drew1) | exact HB.out))); (case aF => exact (fun _ _ => trivial)); (case aO => exact (by (with_reducible repeat (first | apply Kd.R_alloc | apply Kd.R_drewN | apply Kd.R_drew)); exact HO_4.out)); (case aS => exact (below_size (by repeat (first | (with_reducible first | exact HB.out | apply below_alloc | apply pw_below_drewN | apply below_drew1) | exact HB.out)))); (case aL => have := LMc15.out; omega); intro v136 w18 ho hb hg hat; rw [← Ny135.out] at ho; have n0_ := Aside0.mk (hb); have n1_ := Aside0.mk (ho); clear HB; clear HO_4; have HB := n0_; have HO137 := n1_; clear n0_ n1_; clear ho hb hg hat))
                        go_roundg k2
                        case measure => have := HK1.out; have := HK2.out; omega
                        case rel => exact ⟨(y135), (wrap64 (x5_1 + 1)), (by first | rfl | (simp; done) | (simp [*]; done)), H', ⟨by have := HK1.out; have := HK2.out; omega⟩, ⟨by (with_reducible repeat (first | apply Kd.R_alloc | apply Kd.R_drewN | apply Kd.R_drew)); exact HO137.out⟩, ⟨by repeat (first | (with_reducible first | exact HB.out | apply below_alloc | apply pw_below_drewN | apply below_drew1) | exact HB.out)⟩⟩
                      · rw [if_neg c15] at H
                        exact absurd H (by simp)
                    · replace c14 := Bool.eq_false_iff.mpr c14
                      subst c14
                      have H1 : (spec_StartOrder.l1 k2 l0 x4_2 x5_1 (wrap64 (x6_2 + 1))) = some (r1, r2) := by rw [if_neg (show ¬ (false = true) by decide)] at H; exact H
                      clear H
                      have H := H1
                      clear H1
                      have H' := Aside0.mk H
                      clear H
                      have p130 : 0 ≤ (x6_2 : Int) := of_decide_eq_true (by first | (with_reducible assumption) | assumption)
                      have q130 : x6_2 < (l0.length : Int) := of_decide_eq_true (by first | (with_reducible assumption) | assumption)
                      obtain ⟨ad130, A130_1, c130_1, A130_2, c130_2, e130, hx130_0, hx130_1, hx130_2, hx130_3, hx130_4, hl130_1, hi130_1, hl130_2, hi130_2⟩ := at_T32 HR0.out x6_2 p130 q130
                      cases e130
                      replace hx130_0 := (HB.out.cell (World.block_lt_of_cell? w _ hx130_0)).trans hx130_0
                      replace hx130_1 := (HB.out.cell (World.block_lt_of_cell? w _ hx130_1)).trans hx130_1
                      replace hx130_2 := (HB.out.cell (World.block_lt_of_cell? w _ hx130_2)).trans hx130_2
                      replace hx130_3 := (HB.out.cell (World.block_lt_of_cell? w _ hx130_3)).trans hx130_3
                      replace hx130_4 := (HB.out.cell (World.block_lt_of_cell? w _ hx130_4)).trans hx130_4
                      have HR130_1 := Aside0.mk hi130_1
                      have HC130_1 := Aside0.mk hl130_1
                      clear hi130_1 hl130_1
                      have HR130_2 := Aside0.mk hi130_2
                      have HC130_2 := Aside0.mk hl130_2
                      clear hi130_2 hl130_2
                      replace p130 := eq_true p130
                      replace q130 := eq_true q130
                      obtain ⟨Ao19, co19, eo19⟩ := Kd.R_slice HO_4.out
                      subst eo19
                      go_wp2_with (first | ((with_reducible refine gate_callee (f := 51) rfl ?_); refine goesL_ (some 30) rfl rfl Try.func51 (by kernel_rfl) rfl #[.slice Ao19 x4_2.length co19, .string ((rd_T32 l0 x6_2).f0)] rfl (by (try simp only [List.map_toArray, List.map_cons, List.map_nil]); first | done | rfl | (simp only [List.length_drop, List.length_take]; rfl)) ?_; (with_reducible refine (spec_l3Has.calls k2 _ _ x4_2 ((rd_T32 l0 x6_2).f0) false _ ?side1 ?side2 A10.out).mono ?_); (case side1 => repeat (first | exact (Kd.R_reads' HO_4.out).2.2 | (with_reducible refine Kd.C_alloc ?_ _) | (with_reducible refine Kd.C_drewN ?_ _) | (with_reducible refine Kd.C_drew ?_))); (case side2 => exact (Kd.R_reads' HO_4.out).2.1); rintro e w' ⟨rfl, ⟨nd, rfl⟩⟩; refine ⟨_, rfl, ?_⟩; have p132 : 0 ≤ (x6_2 : Int) := of_decide_eq_true (by first | (with_reducible assumption) | assumption); have q132 : x6_2 < (l0.length : Int) := of_decide_eq_true (by first | (with_reducible assumption) | assumption); obtain ⟨ad132, A132_1, c132_1, A132_2, c132_2, e132, hx132_0, hx132_1, hx132_2, hx132_3, hx132_4, hl132_1, hi132_1, hl132_2, hi132_2⟩ := at_T32 HR0.out x6_2 p132 q132; obtain rfl : ad130 = ad132 := (by injection e132); replace hx132_0 := (HB.out.cell (World.block_lt_of_cell? w _ hx132_0)).trans hx132_0; replace hx132_1 := (HB.out.cell (World.block_lt_of_cell? w _ hx132_1)).trans hx132_1; replace hx132_2 := (HB.out.cell (World.block_lt_of_cell? w _ hx132_2)).trans hx132_2; replace hx132_3 := (HB.out.cell (World.block_lt_of_cell? w _ hx132_3)).trans hx132_3; replace hx132_4 := (HB.out.cell (World.block_lt_of_cell? w _ hx132_4)).trans hx132_4; have HR132_1 := Aside0.mk hi132_1; have HC132_1 := Aside0.mk hl132_1; clear hi132_1 hl132_1; have HR132_2 := Aside0.mk hi132_2; have HC132_2 := Aside0.mk hl132_2; clear hi132_2 hl132_2; replace p132 := eq_true p132; replace q132 := eq_true q132; have ea_ := Option.some.inj (hx130_1.symm.trans hx132_1); injection ea_ with ea_ en_ ec_; subst ea_; subst ec_; clear en_; have ea_ := Option.some.inj (hx130_2.symm.trans hx132_2); injection ea_ with ea_ en_ ec_; subst ea_; subst ec_; clear en_) | (go_at_call 58; (with_reducible refine (spec_l18Ready.calls k2 _ _ l0 ((rd_T32 l0 x6_2).f0) _ _ ((rd_T32 l0 x6_2).f1) _ _ ((rd_T32 l0 x6_2).f2) ((rd_T32 l0 x6_2).f3) ((rd_T32 l0 x6_2).f4) _ _ x4_2 false _ ?side1 ?side2 ?side3 ?side4 ?side5 ?side6 ?side7 ?side8 A13.out).mono ?_); (case side1 => repeat (first | exact (Kd.C_below HR0.out (by repeat (first | (with_reducible first | exact HB.out | apply below_alloc | apply pw_below_drewN | apply below_drew1) | exact HB.out))) | (with_reducible refine Kd.C_alloc ?_ _) | (with_reducible refine Kd.C_drewN ?_ _) | (with_reducible refine Kd.C_drew ?_))); (case side2 => exact HC0.out); (case side3 => repeat (first | exact (Kd.C_below HR132_1.out (by repeat (first | (with_reducible first | exact HB.out | apply below_alloc | apply pw_below_drewN | apply below_drew1) | exact HB.out))) | (with_reducible refine Kd.C_alloc ?_ _) | (with_reducible refine Kd.C_drewN ?_ _) | (with_reducible refine Kd.C_drew ?_))); (case side4 => exact HC132_1.out); (case side5 => repeat (first | exact (Kd.C_below HR132_2.out (by repeat (first | (with_reducible first | exact HB.out | apply below_alloc | apply pw_below_drewN | apply below_drew1) | exact HB.out))) | (with_reducible refine Kd.C_alloc ?_ _) | (with_reducible refine Kd.C_drewN ?_ _) | (with_reducible refine Kd.C_drew ?_))); (case side6 => exact HC132_2.out); (case side7 => repeat (first | exact (Kd.R_reads' HO_4.out).2.2 | (with_reducible refine Kd.C_alloc ?_ _) | (with_reducible refine Kd.C_drewN ?_ _) | (with_reducible refine Kd.C_drew ?_))); (case side8 => exact (Kd.R_reads' HO_4.out).2.1); rintro e w20 ⟨rfl, hb⟩; have n0_ := Aside0.mk (Kd.R_below (by (with_reducible repeat (first | apply Kd.R_alloc | apply Kd.R_drewN | apply Kd.R_drew)); exact HO_4.out) hb); have n1_ := Aside0.mk (below_step (by repeat (first | (with_reducible first | exact HB.out | apply below_alloc | apply pw_below_drewN | apply below_drew1) | exact HB.out)) hb); clear HO_4; clear HB; have HO_4 := n0_; have HB := n1_; clear n0_ n1_; (try clear hb); (try clear hb2); (try clear hk); (try clear hi)))
                      go_roundg k2
                      case measure => have := HK1.out; have := HK2.out; omega
                      case rel => exact ⟨(x4_2), (wrap64 (x6_2 + 1)), (by first | rfl | (simp; done) | (simp [*]; done)), H', ⟨by have := HK1.out; have := HK2.out; omega⟩, ⟨by (with_reducible repeat (first | apply Kd.R_alloc | apply Kd.R_drewN | apply Kd.R_drew)); exact HO_4.out⟩, ⟨by repeat (first | (with_reducible first | exact HB.out | apply below_alloc | apply pw_below_drewN | apply below_drew1) | exact HB.out)⟩⟩
                · rw [if_neg c9] at H
                  exact absurd H (by simp)
              · rw [if_neg c8] at H
                have c8b0 : decide (x6_2 < (l0.length : Int)) = false := decide_eq_false c8
                clear c8
                have H' := Aside0.mk H
                clear H
                go_wp2
                go_roundg k2
                case measure => have := HK1.out; have := HK2.out; omega
                case rel => exact ⟨(x4_2), (wrap64 (x5_1 + 1)), (by first | rfl | (simp; done) | (simp [*]; done)), H', ⟨by have := HK1.out; have := HK2.out; omega⟩, ⟨by (with_reducible repeat (first | apply Kd.R_alloc | apply Kd.R_drewN | apply Kd.R_drew)); exact HO_4.out⟩, ⟨by repeat (first | (with_reducible first | exact HB.out | apply below_alloc | apply pw_below_drewN | apply below_drew1) | exact HB.out)⟩⟩
        · rw [if_neg c7] at H
          have c7b0 : decide (x5_1 < (l0.length : Int)) = false := decide_eq_false c7
          clear c7
          simp only [Option.some.injEq, Prod.mk.injEq] at H
          obtain ⟨rfl, rfl⟩ := H
          obtain ⟨Ao21, co21, eo21⟩ := Kd.R_slice HO_4.out
          subst eo21
          go_wp2
          go_ret2
          exact ⟨_, by first | rfl | (simp [errW_none, errW_some] <;> rfl) | (simp [*, errW_none, errW_some] <;> rfl), by (with_reducible repeat (first | apply Kd.R_alloc | apply Kd.R_drewN | apply Kd.R_drew)); exact HO_4.out, by repeat (first | (with_reducible first | exact HB.out | apply below_alloc | apply pw_below_drewN | apply below_drew1) | exact HB.out)⟩
  · replace c3 := Bool.eq_false_iff.mpr c3
    subst c3
    have H1 : (some (y126, false)) = some (r1, r2) := by rw [if_neg (show ¬ (false = true) by decide)] at H; exact H
    clear H
    have H := H1
    clear H1
    simp only [Option.some.injEq, Prod.mk.injEq] at H
    obtain ⟨rfl, rfl⟩ := H
    go_enter Try.func27, Try.ntmps27
    go_wp2_with (first | ((with_reducible refine gate_dst (N := 7) rfl ?_); refine Kd.R_lit Kd.string _ 9 ?hg (N := 7) ?hd (xs := ([] : List ByteArray)) (inner := []) (ok := fun _ => True) (okp := fun _ => True) ?hr ?hp (fun _ hk => hk) trivial (Below.refl _ _) (Nat.le_refl _) (by simp) ?_; (case hd => rfl); (case hg => rfl); (case hr => first | (go_simp; done) | (go_simp; rfl)); (case hp => exact (Reps.none _ _)); intro v127 w22 ho23 hb hg_ hnew_; clear hg_ hnew_; (first | rw [← Ny126.out] at ho23 | (simp only [Int.reduceToNat] at ho23; rw [← Ny126.out] at ho23)); have n0_ := Aside0.mk (Kd.R_lower ho23 (below_size (by repeat (first | (with_reducible first | exact HB.out | apply below_alloc | apply pw_below_drewN | apply below_drew1) | exact HB.out)))); have n1_ := Aside0.mk (below_step (by repeat (first | (with_reducible first | exact HB.out | apply below_alloc | apply pw_below_drewN | apply below_drew1) | exact HB.out)) hb); clear HB; have HO128 := n0_; have HB := n1_; clear n0_ n1_; clear hb ho23) | ((with_reducible refine gate_callee (f := 13) rfl ?_); refine goesL_ (some 9) rfl rfl Try.func13 (by kernel_rfl) rfl #[.slice A0 l0.length c0] rfl (by (try simp only [List.map_toArray, List.map_cons, List.map_nil]); first | done | rfl | (simp only [List.length_drop, List.length_take]; rfl)) ?_; (with_reducible refine (spec_UnitsOk.calls _ _ l0 false _ ?side1 ?side2 A2.out).mono ?_); (case side1 => repeat (first | exact (Kd.C_below HR0.out HB.out) | (with_reducible refine Kd.C_alloc ?_ _) | (with_reducible refine Kd.C_drewN ?_ _) | (with_reducible refine Kd.C_drew ?_))); (case side2 => exact HC0.out); rintro e w24 ⟨rfl, hb⟩; refine ⟨_, rfl, ?_⟩; have n0_ := Aside0.mk (Kd.R_below (by (with_reducible repeat (first | apply Kd.R_alloc | apply Kd.R_drewN | apply Kd.R_drew)); exact HO128.out) hb); have n1_ := Aside0.mk (below_step (by repeat (first | (with_reducible first | exact HB.out | apply below_alloc | apply pw_below_drewN | apply below_drew1) | exact HB.out)) hb); clear HO128; clear HB; have HO128 := n0_; have HB := n1_; clear n0_ n1_; (try clear hb); (try clear hb2); (try clear hk); (try clear hi)))
    go_ret2
    exact ⟨_, by first | rfl | (simp [errW_none, errW_some] <;> rfl) | (simp [*, errW_none, errW_some] <;> rfl), by (with_reducible repeat (first | apply Kd.R_alloc | apply Kd.R_drewN | apply Kd.R_drew)); exact HO128.out, by repeat (first | (with_reducible first | exact HB.out | apply below_alloc | apply pw_below_drewN | apply below_drew1) | exact HB.out)⟩
end Go.Proofs.Ytnjmhlhlmokjnaa.G
namespace Go.Proofs.Ytnjmhlhlmokjnaa.G
open Go.RowKit Go.Proofs.YtnjmhlhlmokjnaaW.PrintWords Go.Proofs.YtnjmhlhlmokjnaaW.PrintLast
set_option linter.unusedVariables false
set_option linter.unusedSimpArgs false
theorem ready_l1 (us : List S32) (hu : us.length ≤ 100) (o : List ByteArray) (ho : o.length ≤ 1000) (f0 : ByteArray) (f1 f2 : List ByteArray) (f3 : ByteArray) (f4 : Bool) (h1 : f1.length ≤ 20) (d : Nat) : ∀ i : Nat, i + d = f1.length →
    Ev (fun k => spec_l18Ready.l1 k us o (i : Int) f0 f1 f2 f3 f4) (((f1.drop i).filter (hasU us)).all (fun x => decide (x ∈ o))) := by
  induction d with
  | zero =>
    intro i hi
    rw [List.drop_eq_nil_of_le (by omega)]
    exact Ev.step (f := fun _ => some true) (fun k => by rw [spec_l18Ready.l1, if_neg (by omega)]) (Ev.now _)
  | succ d ih =>
    intro i hi
    have hil : i < f1.length := by omega
    have hw : wrap64 ((i : Int) + 1) = ((i + 1 : Nat) : Int) := by rw [wrap_id (by omega) (by omega)]; omega
    have hx := ih (i + 1) (by omega)
    rw [List.drop_eq_getElem_cons hil, List.filter_cons]
    refine Ev.step (fun k => by rw [spec_l18Ready.l1, if_pos (by omega), if_pos (by omega), rdOf_nat _ f1 i hil, hw]) (Ev.bind (l18Find_ev us f1[i] (by omega)) ?_)
    cases hh : hasU us f1[i] with
    | false =>
      have hge : ¬ findU us f1[i] ≥ 0 := by rw [findU_ge, hh]; decide
      rw [if_neg (by decide)]
      exact Ev.congr (fun k => if_neg hge) hx
    | true =>
      have hge : findU us f1[i] ≥ 0 := by rw [findU_ge]; exact hh
      rw [if_pos rfl, List.all_cons]
      refine Ev.congr (fun k => if_pos hge) (Ev.bind (l3Has_ev o f1[i] (by omega)) ?_)
      cases decide (f1[i] ∈ o) with
      | false => exact Ev.congr (fun k => if_neg (by decide)) (Ev.now _)
      | true => exact Ev.congr (fun k => if_pos rfl) hx
theorem ready_l0 (us : List S32) (hu : us.length ≤ 100) (o : List ByteArray) (ho : o.length ≤ 1000) (f0 : ByteArray) (f1 f2 : List ByteArray) (f3 : ByteArray) (f4 : Bool) (h1 : f1.length ≤ 20) (h2 : f2.length ≤ 20) (d : Nat) : ∀ i : Nat, i + d = f2.length →
    Ev (fun k => spec_l18Ready.l0 k us o (i : Int) f0 f1 f2 f3 f4) ((f2.drop i ++ f1.filter (hasU us)).all (fun x => decide (x ∈ o))) := by
  induction d with
  | zero =>
    intro i hi
    rw [List.drop_eq_nil_of_le (by omega), List.nil_append]
    have := ready_l1 us hu o ho f0 f1 f2 f3 f4 h1 f1.length 0 (by omega)
    rw [List.drop_zero] at this
    exact Ev.step (fun k => by rw [spec_l18Ready.l0, if_neg (by omega)]; rfl) this
  | succ d ih =>
    intro i hi
    have hil : i < f2.length := by omega
    have hw : wrap64 ((i : Int) + 1) = ((i + 1 : Nat) : Int) := by rw [wrap_id (by omega) (by omega)]; omega
    have hx := ih (i + 1) (by omega)
    rw [List.drop_eq_getElem_cons hil, List.cons_append, List.all_cons]
    refine Ev.step (fun k => by rw [spec_l18Ready.l0, if_pos (by omega), if_pos (by omega), rdOf_nat _ f2 i hil, hw]) (Ev.bind (l3Has_ev o f2[i] (by omega)) ?_)
    cases decide (f2[i] ∈ o) with
    | false => exact Ev.congr (fun k => if_neg (by decide)) (Ev.now _)
    | true => exact Ev.congr (fun k => if_pos rfl) hx
theorem ready_ev (us : List S32) (hu : us.length ≤ 100) (o : List ByteArray) (ho : o.length ≤ 1000) (u : S32) (h1 : u.f1.length ≤ 20) (h2 : u.f2.length ≤ 20) : Ev (fun k => spec_l18Ready.f k us u.f0 u.f1 u.f2 u.f3 u.f4 o) ((waitsL us u).all (fun x => decide (x ∈ o))) := by
  have := ready_l0 us hu o ho u.f0 u.f1 u.f2 u.f3 u.f4 h1 h2 u.f2.length 0 (by omega)
  rw [List.drop_zero] at this
  exact this
theorem order_l1 (us : List S32) (hu : us.length ≤ 100) (hg : ∀ u ∈ us, u.f1.length ≤ 20 ∧ u.f2.length ≤ 20) (o : List ByteArray) (ho : o.length ≤ 100) (i : Nat) (hi : i < us.length) (R : List ByteArray × Bool)
    (next : ∀ o', (match us.find? (readyB us o) with | none => o' = o | some u => o' = o ++ [u.f0]) → Ev (fun k => spec_StartOrder.l0 k us o' ((i + 1 : Nat) : Int)) R) (d : Nat) : ∀ j : Nat, j + d = us.length → (∀ j' : Nat, j' < j → readyB us o (rd_T32 us (j' : Int)) = false) →
    Ev (fun k => spec_StartOrder.l1 k us o (i : Int) (j : Int)) R := by
  induction d with
  | zero =>
    intro j hj hno
    have hw : wrap64 ((i : Int) + 1) = ((i + 1 : Nat) : Int) := by rw [wrap_id (by omega) (by omega)]; omega
    have hn := find_none (us := us) (p := readyB us o) (fun j' h => hno j' (by omega))
    refine Ev.step (fun k => by rw [spec_StartOrder.l1, if_neg (by omega), hw]) (next o ?_)
    rw [hn]
  | succ d ih =>
    intro j hj hno
    have hjl : j < us.length := by omega
    have hmem : us[j] ∈ us := List.getElem_mem hjl
    have hwj : wrap64 ((j : Int) + 1) = ((j + 1 : Nat) : Int) := by rw [wrap_id (by omega) (by omega)]; omega
    have more : readyB us o us[j] = false → Ev (fun k => spec_StartOrder.l1 k us o (i : Int) ((j + 1 : Nat) : Int)) R := fun h => ih (j + 1) (by omega) (fun j' hj' => by
      rcases Nat.lt_or_ge j' j with h' | h'
      · exact hno j' h'
      · obtain rfl : j' = j := by omega
        rw [rd_T32_nat us j' hjl]; exact h)
    refine Ev.step (fun k => by rw [spec_StartOrder.l1, if_pos (by omega), if_pos (by omega), rd_T32_nat us j hjl, hwj]) (Ev.bind (l3Has_ev o us[j].f0 (by omega)) ?_)
    clear hwj
    by_cases hm : us[j].f0 ∈ o
    · rw [decide_eq_true hm]
      refine Ev.congr (fun k => if_pos rfl) (more ?_)
      unfold readyB
      rw [decide_eq_true hm]; rfl
    · rw [decide_eq_false hm]
      have hr : readyB us o us[j] = (waitsL us us[j]).all (fun x => decide (x ∈ o)) := by
        unfold readyB
        rw [decide_eq_false hm]; rfl
      refine Ev.congr (fun k => if_neg (by decide)) (Ev.bind (ready_ev us hu o (by omega) us[j] (hg _ hmem).1 (hg _ hmem).2) ?_)
      rw [← hr]
      cases hrd : readyB us o us[j] with
      | false => exact Ev.congr (fun k => if_neg (by decide)) (more hrd)
      | true =>
        have hw : wrap64 ((i : Int) + 1) = ((i + 1 : Nat) : Int) := by rw [wrap_id (by omega) (by omega)]; omega
        refine Ev.congr (fun k => by rw [if_pos rfl, if_pos (by omega), hw]) (next _ ?_)
        rw [find_at hjl hno hrd]
theorem order_l0 (us : List S32) (hu : us.length ≤ 100) (hg : ∀ u ∈ us, u.f1.length ≤ 20 ∧ u.f2.length ≤ 20) (d : Nat) : ∀ (i : Nat) (o : List ByteArray), i + d = us.length → o.length ≤ i →
    Ev (fun k => spec_StartOrder.l0 k us o (i : Int)) (orderL us d o, ((orderL us d o).length : Int) == (us.length : Int)) := by
  induction d with
  | zero =>
    intro i o hi ho
    exact Ev.step (f := fun _ => some (o, (o.length : Int) == (us.length : Int))) (fun k => by rw [spec_StartOrder.l0, if_neg (by omega)]) (Ev.now _)
  | succ d ih =>
    intro i o hi ho
    refine Ev.step (fun k => by rw [spec_StartOrder.l0, if_pos (by omega)]; rfl) (order_l1 us hu hg o (by omega) i (by omega) _ (fun o' ho' => ?_) us.length 0 (by omega) (fun j' h => absurd h (Nat.not_lt_zero _)))
    have e : orderL us (d + 1) o = orderL us d o' := by
      cases hf : us.find? (readyB us o) with
      | none =>
        rw [hf] at ho'
        subst ho'
        rw [show orderL us (d + 1) o' = o' by unfold orderL; rw [hf]]
        cases d with
        | zero => rfl
        | succ d => unfold orderL; rw [hf]
      | some u =>
        rw [hf] at ho'
        subst ho'
        show (match us.find? (readyB us o) with | none => o | some u => orderL us d (o ++ [u.f0])) = _
        rw [hf]
    rw [e]
    refine ih (i + 1) o' (by omega) ?_
    cases hf : us.find? (readyB us o) with
    | none => rw [hf] at ho'; subst ho'; omega
    | some u => rw [hf] at ho'; subst ho'; simp; omega
theorem specOrder_ev (us : List S32) : Ev (fun k => spec_StartOrder.f k us) (if unitsOkB us = true then (startL us, ((startL us).length : Int) == (us.length : Int)) else ([], false)) := by
  cases hok : unitsOkB us with
  | false =>
    refine Ev.congr (fun k => ?_) (Ev.now _)
    simp [spec_StartOrder.f, spec_UnitsOk.f, hok]
  | true =>
    have hg := good_of_ok hok
    rw [if_pos rfl]
    refine Ev.congr (f := fun k => spec_StartOrder.l0 k us [] 0) (fun k => ?_) (order_l0 us hg.len (fun u h => ⟨(unit_good (hg.unit u h)).after, (unit_good (hg.unit u h)).needs⟩) us.length 0 [] (by omega) (by simp))
    simp only [spec_StartOrder.f, spec_UnitsOk.f, hok, Option.bind_some, if_true]
end Go.Proofs.Ytnjmhlhlmokjnaa.G
namespace Go.Proofs.Ytnjmhlhlmokjnaa.G
open Go.RowKit Go.Maps Go.Proofs.YtnjmhlhlmokjnaaW.PrintWords Go.Proofs.YtnjmhlhlmokjnaaW.PrintLast Go.Proofs.YtnjmhlhlmokjnaaW.PrintMore
set_option linter.unusedVariables false
set_option linter.unusedSimpArgs false
theorem startL_inv (us : List S32) : OrdInv us (startL us) := by
  have key : ∀ n o, OrdInv us o → us.length - o.length = n → OrdInv us (orderL us n o) := by
    intro n
    induction n with
    | zero => intro o h _; exact h
    | succ n ih =>
      intro o h hn
      unfold orderL
      cases hf : us.find? (readyB us o) with
      | none => exact h
      | some u => exact ih _ (h.next hf) (by simp; omega)
  exact key _ [] (OrdInv.start us) (by simp)
end Go.Proofs.Ytnjmhlhlmokjnaa.G
namespace Go.Proofs.Ytnjmhlhlmokjnaa.G
open Go.RowKit Go.Proofs.YtnjmhlhlmokjnaaW.PrintWords Go.Proofs.YtnjmhlhlmokjnaaW.PrintLast Go.Proofs.YtnjmhlhlmokjnaaW.PrintMore
attribute [local go_sem] max2_int min2_int max_two min_two max_three min_three max_four min_four
set_option linter.unusedVariables false
set_option linter.unusedSimpArgs false
def impl_StartOrder.f (l0 : List (S32)) : Option (List ByteArray × Bool) := (impl_UnitsOk.f l0).bind fun t475 => (if t475 = true then ((impl_startOrder.f l0).bind fun t476 => (some (t476, ((t476.length : Int) == (l0.length : Int))))) else (some (([] : List ByteArray), false)))
set_option maxHeartbeats 8000000 in
set_option maxRecDepth 100000 in
theorem impl_StartOrder.calls (A0 : Option Addr) (c0 : Nat) (l0 : List (S32)) (r1 : List ByteArray) (r2 : Bool) (w : World) (hr0 : Kd.C k32 w A0 l0.length l0) (hc0 : l0.length ≤ c0) (h : impl_StartOrder.f l0 = some (r1, r2)) :
    Calls Try.prog 28 #[.slice A0 l0.length c0] w fun e w' => ∃ v0_ : Value, e = .returned (.tuple #[v0_, .bool r2]) ∧ Kd.R Kd.string 9 w' w.heap.size (fun _ => True) v0_ r1 ∧ Below w.heap.size w w' := by
  have HR0 := Aside0.mk hr0
  have HC0 := Aside0.mk hc0
  clear hr0 hc0
  have HB := Aside0.mk (Below.refl w.heap.size w)
  have H : ((impl_UnitsOk.f l0).bind fun t475 => (if t475 = true then ((impl_startOrder.f l0).bind fun t476 => (some (t476, ((t476.length : Int) == (l0.length : Int))))) else (some (([] : List ByteArray), false)))) = some (r1, r2) := h
  clear h
  replace H := Option.bind_eq_some_iff.mp H
  obtain ⟨t475, A20, H⟩ := H
  replace H : (if t475 = true then ((impl_startOrder.f l0).bind fun t476 => (some (t476, ((t476.length : Int) == (l0.length : Int))))) else (some (([] : List ByteArray), false))) = some (r1, r2) := H
  have A2 := Aside0.mk A20
  clear A20
  by_cases c3 : t475 = true
  · subst c3
    have H1 : ((impl_startOrder.f l0).bind fun t476 => (some (t476, ((t476.length : Int) == (l0.length : Int))))) = some (r1, r2) := by rw [if_pos rfl] at H; exact H
    clear H
    have H := H1
    clear H1
    replace H := Option.bind_eq_some_iff.mp H
    obtain ⟨t476, A40, H⟩ := H
    replace H : (some (t476, ((t476.length : Int) == (l0.length : Int)))) = some (r1, r2) := H
    have A4 := Aside0.mk A40
    clear A40
    simp only [Option.some.injEq, Prod.mk.injEq] at H
    obtain ⟨rfl, rfl⟩ := H
    go_enter Try.func28, Try.ntmps28
    go_wp2_with (first | ((with_reducible refine gate_callee (f := 14) rfl ?_); refine goesL_ (some 6) rfl rfl Try.func14 (by kernel_rfl) rfl #[.slice A0 l0.length c0] rfl (by (try simp only [List.map_toArray, List.map_cons, List.map_nil]); first | done | rfl | (simp only [List.length_drop, List.length_take]; rfl)) ?_; (with_reducible refine (impl_UnitsOk.calls _ _ l0 true _ ?side1 ?side2 A2.out).mono ?_); (case side1 => repeat (first | exact HR0.out | (with_reducible refine Kd.C_alloc ?_ _) | (with_reducible refine Kd.C_drewN ?_ _) | (with_reducible refine Kd.C_drew ?_))); (case side2 => exact HC0.out); rintro e w5 ⟨rfl, hb⟩; refine ⟨_, rfl, ?_⟩; have n0_ := Aside0.mk (below_step (by repeat (first | (with_reducible first | exact HB.out | apply below_alloc | apply pw_below_drewN | apply below_drew1) | exact HB.out)) hb); clear HB; have HB := n0_; clear n0_; (try clear hb); (try clear hb2); (try clear hk); (try clear hi)) | ((with_reducible refine gate_callee (f := 59) rfl ?_); refine goesL_ (some 9) rfl rfl Try.func59 (by kernel_rfl) rfl #[.slice A0 l0.length c0] rfl (by (try simp only [List.map_toArray, List.map_cons, List.map_nil]); first | done | rfl | (simp only [List.length_drop, List.length_take]; rfl)) ?_; (with_reducible refine (impl_startOrder.calls _ _ l0 t476 _ ?side1 ?side2 A4.out).mono ?_); (case side1 => repeat (first | exact (Kd.C_below HR0.out HB.out) | (with_reducible refine Kd.C_alloc ?_ _) | (with_reducible refine Kd.C_drewN ?_ _) | (with_reducible refine Kd.C_drew ?_))); (case side2 => exact HC0.out); rintro e w6 ⟨v477, rfl, ho0, hb⟩; refine ⟨_, rfl, ?_⟩; have n0_ := Aside0.mk (Kd.R_lower ho0 (below_size (by repeat (first | (with_reducible first | exact HB.out | apply below_alloc | apply pw_below_drewN | apply below_drew1) | exact HB.out)))); have n1_ := Aside0.mk (below_step (by repeat (first | (with_reducible first | exact HB.out | apply below_alloc | apply pw_below_drewN | apply below_drew1) | exact HB.out)) hb); clear HB; have HO478 := n0_; have HB := n1_; clear n0_ n1_; (try clear hb); (try clear hb2); (try clear hk); (try clear hi); (try clear ho0); obtain ⟨Ao7, co7, eo7⟩ := Kd.R_slice HO478.out; subst eo7))
    go_ret2
    exact ⟨_, by first | rfl | (simp [errW_none, errW_some] <;> rfl) | (simp [*, errW_none, errW_some] <;> rfl), by (with_reducible repeat (first | apply Kd.R_alloc | apply Kd.R_drewN | apply Kd.R_drew)); exact HO478.out, by repeat (first | (with_reducible first | exact HB.out | apply below_alloc | apply pw_below_drewN | apply below_drew1) | exact HB.out)⟩
  · replace c3 := Bool.eq_false_iff.mpr c3
    subst c3
    have H1 : (some (([] : List ByteArray), false)) = some (r1, r2) := by rw [if_neg (show ¬ (false = true) by decide)] at H; exact H
    clear H
    have H := H1
    clear H1
    simp only [Option.some.injEq, Prod.mk.injEq] at H
    obtain ⟨rfl, rfl⟩ := H
    go_enter Try.func28, Try.ntmps28
    go_wp2_with (first | ((with_reducible refine gate_callee (f := 14) rfl ?_); refine goesL_ (some 6) rfl rfl Try.func14 (by kernel_rfl) rfl #[.slice A0 l0.length c0] rfl (by (try simp only [List.map_toArray, List.map_cons, List.map_nil]); first | done | rfl | (simp only [List.length_drop, List.length_take]; rfl)) ?_; (with_reducible refine (impl_UnitsOk.calls _ _ l0 false _ ?side1 ?side2 A2.out).mono ?_); (case side1 => repeat (first | exact HR0.out | (with_reducible refine Kd.C_alloc ?_ _) | (with_reducible refine Kd.C_drewN ?_ _) | (with_reducible refine Kd.C_drew ?_))); (case side2 => exact HC0.out); rintro e w8 ⟨rfl, hb⟩; refine ⟨_, rfl, ?_⟩; have n0_ := Aside0.mk (below_step (by repeat (first | (with_reducible first | exact HB.out | apply below_alloc | apply pw_below_drewN | apply below_drew1) | exact HB.out)) hb); clear HB; have HB := n0_; clear n0_; (try clear hb); (try clear hb2); (try clear hk); (try clear hi)))
    go_ret2
    exact ⟨_, by first | rfl | (simp [errW_none, errW_some] <;> rfl) | (simp [*, errW_none, errW_some] <;> rfl), by first | exact Kd.R_nil _ _ _ _ _ | exact Kd.N_nil _ _ _ _ _ | exact Kd.V_nil _ _ _ _ _ | exact Kd.Q_nil _ _ _ _ _ | exact Kd.S_nil _ _ _ _ _, by repeat (first | (with_reducible first | exact HB.out | apply below_alloc | apply pw_below_drewN | apply below_drew1) | exact HB.out)⟩
end Go.Proofs.Ytnjmhlhlmokjnaa.G
namespace Go.Proofs.Ytnjmhlhlmokjnaa.G
open Go.RowKit Go.Proofs.YtnjmhlhlmokjnaaW.PrintWords Go.Proofs.YtnjmhlhlmokjnaaW.PrintLast Go.Proofs.YtnjmhlhlmokjnaaW.PrintMore
set_option linter.unusedVariables false
set_option linter.unusedSimpArgs false
set_option maxHeartbeats 8000000 in
set_option maxRecDepth 100000 in
theorem laws_FnExactStartOrder_walk (A0 : Option Addr) (c0 : Nat) (l0 : List S70) (w : World) (hr0 : Kd.C k70 w A0 l0.length l0) (hc0 : l0.length ≤ c0) (hz0 : ∀ u ∈ l0, unitRaw u) :
    Calls Try.prog 5 #[.slice A0 l0.length c0] w fun e w' => e = .returned (.bool true) ∧ Below w.heap.size w w' := by
  have hn0 : l0.length ≤ 9223372036854775807 := hr0.2.1
  have HR0 := Aside0.mk hr0
  have HC0 := Aside0.mk hc0
  clear hr0 hc0
  obtain ⟨q0, E0, m0, b0⟩ := szus_ev l0 hn0 hz0 1048576 (by omega) (by omega)
  have HE0 := Aside0.mk E0
  clear E0
  by_cases hq0 : q0 < 0
  · have hd0 : decide (q0 < 0) = true := decide_eq_true hq0
    clear b0 m0 hz0 hn0
    have HB := Aside0.mk (Below.refl w.heap.size w)
    go_enter Try.func5, Try.ntmps5
    go_wp2_with fail
    refine (szU_c HE0.out (Kd.C_below HR0.out HB.out) HC0.out).mono ?_
    rintro e w1 ⟨rfl, hb⟩
    replace HB := Aside0.mk (below_then HB.out HB.out.size hb)
    have HS0 := Aside0.mk (hb.size)
    clear hb
    go_wp2_with fail
    go_ret
    exact ⟨rfl, HB.out⟩
  have hd0 : decide (q0 < 0) = false := decide_eq_false hq0
  have HU0 := Aside0.mk (lenOk_conv (l := l0) (by have := b0 (by omega); omega))
  have hl0 : l0.length ≤ 1048576 := by have := b0 (by omega); omega
  have hv0 : 0 ≤ q0 := by omega
  obtain ⟨us0, hus0⟩ : ∃ us, us = l0.map conv := ⟨_, rfl⟩
  rw [← hus0] at HU0
  have hlc0 : us0.length ≤ 1048576 := by rw [hus0, List.length_map]; exact hl0
  have HUS0 := Aside0.mk hus0
  clear hus0
  clear b0 hq0 hz0 hn0 m0
  obtain ⟨ans, b, hab⟩ : ∃ (ans : List ByteArray) (b : Bool), (ans, b) = (if unitsOkB us0 = true then (startL us0, ((startL us0).length : Int) == (us0.length : Int)) else ([], false)) := ⟨_, _, rfl⟩
  obtain ⟨kS, hS⟩ := (specOrder_ev us0).rounds
  rw [← hab] at hS
  have HSP := Aside0.mk hS
  have HIM : Aside0 (impl_StartOrder.f us0 = some (ans, b)) := ⟨by
    rw [hab]
    unfold impl_StartOrder.f impl_UnitsOk.f impl_startOrder.f
    cases h : unitsOkB us0 <;> rfl⟩
  have hans : ans.length ≤ 1048576 := by
    have h1 := (startL_inv us0).len
    have h2 : ans = (if unitsOkB us0 = true then (startL us0, ((startL us0).length : Int) == (us0.length : Int)) else ([], false)).1 := by rw [← hab]
    rw [h2]
    split
    · show (startL us0).length ≤ _; omega
    · exact Nat.zero_le _
  clear hab hS
  have HB := Aside0.mk (Below.refl w.heap.size w)
  go_enter Try.func5, Try.ntmps5
  go_wp2_with fail
  refine (szU_c HE0.out (Kd.C_below HR0.out HB.out) HC0.out).mono ?_
  rintro e w1 ⟨rfl, hb⟩
  replace HB := Aside0.mk (below_then HB.out HB.out.size hb)
  have HS0 := Aside0.mk (hb.size)
  clear hb
  go_wp2_with fail
  refine (toU_c HUS0.out hl0 HU0.out (Kd.C_below HR0.out HB.out) HC0.out HB.out.size).mono ?_
  rintro e w2 ⟨At0, ct0, rfl, ho, hb⟩
  replace HB := Aside0.mk (below_then HB.out HB.out.size hb)
  have HS1 := Aside0.mk (hb.size)
  clear hb
  have Ht0 := Aside0.mk ho
  clear ho
  go_wp2_with fail
  refine (spec_StartOrder.calls kS _ _ _ ans b _ (Kd.R_reads' Ht0.out).2.2 (Kd.R_reads' Ht0.out).2.1 HSP.out).mono ?_
  rintro e w3 ⟨vwa, rfl, ho, hb⟩
  obtain ⟨Awa, cwa, rfl⟩ := Kd.R_slice ho
  replace ho := R_span ho HB.out.size
  replace Ht0 := Aside0.mk (Kd.R_below Ht0.out hb)
  replace HB := Aside0.mk (below_then HB.out HB.out.size hb)
  have HS2 := Aside0.mk (hb.size)
  clear hb
  have Hwa := Aside0.mk ho
  clear ho
  clear Ht0
  go_wp2_with fail
  refine (toU_c HUS0.out hl0 HU0.out (Kd.C_below HR0.out HB.out) HC0.out HB.out.size).mono ?_
  rintro e w4 ⟨Ax0, cx0, rfl, ho, hb⟩
  replace Hwa := Aside0.mk (Kd.R_below Hwa.out hb)
  replace HB := Aside0.mk (below_then HB.out HB.out.size hb)
  have HS3 := Aside0.mk (hb.size)
  clear hb
  have Hx0 := Aside0.mk ho
  clear ho
  go_wp2_with fail
  refine (impl_StartOrder.calls _ _ _ ans b _ (Kd.R_reads' Hx0.out).2.2 (Kd.R_reads' Hx0.out).2.1 HIM.out).mono ?_
  rintro e w5 ⟨vga, rfl, ho, hb⟩
  obtain ⟨Aga, cga, rfl⟩ := Kd.R_slice ho
  replace ho := R_span ho HB.out.size
  replace Hwa := Aside0.mk (Kd.R_below Hwa.out hb)
  replace Hx0 := Aside0.mk (Kd.R_below Hx0.out hb)
  replace HB := Aside0.mk (below_then HB.out HB.out.size hb)
  have HS4 := Aside0.mk (hb.size)
  clear hb
  have Hga := Aside0.mk ho
  clear ho
  go_wp2_with fail
  refine (eqS_c (Kd.R_reads' Hga.out).2.2 (Kd.R_reads' Hga.out).2.1 (Kd.R_reads' Hwa.out).2.2 (Kd.R_reads' Hwa.out).2.1).mono ?_
  rintro e w6 ⟨rfl, hb⟩
  replace hb := drawn_b hb
  replace Hwa := Aside0.mk (Kd.R_below Hwa.out hb)
  replace Hx0 := Aside0.mk (Kd.R_below Hx0.out hb)
  replace Hga := Aside0.mk (Kd.R_below Hga.out hb)
  replace HB := Aside0.mk (below_then HB.out HB.out.size hb)
  have HS5 := Aside0.mk (hb.size)
  clear hb
  go_wp2_with fail
  refine (toU_c HUS0.out hl0 HU0.out (Kd.C_below HR0.out HB.out) HC0.out HB.out.size).mono ?_
  rintro e w7 ⟨At0, ct0, rfl, ho, hb⟩
  replace Hwa := Aside0.mk (Kd.R_below Hwa.out hb)
  replace Hx0 := Aside0.mk (Kd.R_below Hx0.out hb)
  replace Hga := Aside0.mk (Kd.R_below Hga.out hb)
  replace HB := Aside0.mk (below_then HB.out HB.out.size hb)
  have HS6 := Aside0.mk (hb.size)
  clear hb
  have Ht0 := Aside0.mk ho
  clear ho
  go_wp2_with fail
  refine (eqU_c hlc0 HU0.out (Kd.R_reads' Hx0.out).2.2 (Kd.R_reads' Hx0.out).2.1 (Kd.R_reads' Ht0.out).2.2 (Kd.R_reads' Ht0.out).2.1).mono ?_
  rintro e w8 ⟨rfl, hb⟩
  replace Hwa := Aside0.mk (Kd.R_below Hwa.out hb)
  replace Hx0 := Aside0.mk (Kd.R_below Hx0.out hb)
  replace Hga := Aside0.mk (Kd.R_below Hga.out hb)
  replace Ht0 := Aside0.mk (Kd.R_below Ht0.out hb)
  replace HB := Aside0.mk (below_then HB.out HB.out.size hb)
  have HS7 := Aside0.mk (hb.size)
  clear hb
  clear Ht0
  go_wp2_with fail
  refine (markUnits_c _ _ 1 _ _ _ Hx0.out hlc0 HU0.out (by omega) (by omega)).mono ?_
  rintro e w9 ⟨⟨k0, rfl, hk0, hkb0⟩, hm⟩
  replace Hwa := Aside0.mk (R_other Hwa.out hm.other (fun k hk hk' => by have hx_ := hk'; have := HS0.out; have := HS1.out; have := HS2.out; have := HS3.out; have := HS4.out; have := HS5.out; have := HS6.out; have := HS7.out; omega))
  replace Hga := Aside0.mk (R_other Hga.out hm.other (fun k hk hk' => by have hx_ := hk'; have := HS0.out; have := HS1.out; have := HS2.out; have := HS3.out; have := HS4.out; have := HS5.out; have := HS6.out; have := HS7.out; omega))
  replace HB := Aside0.mk (hm.to_below HB.out HB.out.size (fun k hk => by have := HS0.out; have := HS1.out; have := HS2.out; have := HS3.out; have := HS4.out; have := HS5.out; have := HS6.out; have := HS7.out; omega))
  have HS8 := Aside0.mk (hm.size)
  clear hm
  clear Hx0
  go_wp2_with fail
  refine (eqS_c (Kd.R_reads' Hga.out).2.2 (Kd.R_reads' Hga.out).2.1 (Kd.R_reads' Hwa.out).2.2 (Kd.R_reads' Hwa.out).2.1).mono ?_
  rintro e w10 ⟨rfl, hb⟩
  replace hb := drawn_b hb
  replace Hwa := Aside0.mk (Kd.R_below Hwa.out hb)
  replace Hga := Aside0.mk (Kd.R_below Hga.out hb)
  replace HB := Aside0.mk (below_then HB.out HB.out.size hb)
  have HS9 := Aside0.mk (hb.size)
  clear hb
  go_wp2_with fail
  refine (markS_c 1 HB.out Hga.out hans (by omega) (by omega)).mono ?_
  rintro e w11 ⟨rfl, ⟨gm, hmk, ho⟩, hb, hm⟩
  replace Hwa := Aside0.mk (R_other Hwa.out hm.2 (fun k hk hk' => by have hx_ := Hga.out.1 k hk'.symm; have := HS0.out; have := HS1.out; have := HS2.out; have := HS3.out; have := HS4.out; have := HS5.out; have := HS6.out; have := HS7.out; have := HS8.out; have := HS9.out; omega))
  replace HB := Aside0.mk hb
  have HS10 := Aside0.mk (hm.1)
  have HMK := Aside0.mk hmk
  replace Hga := Aside0.mk ho
  clear hm hb ho hmk
  go_wp2_with fail
  refine (held_c 1 HMK.out hans (by omega) (by omega) Hga.out rfl).mono ?_
  rintro e w12 ⟨rfl, hb⟩
  replace Hwa := Aside0.mk (Kd.R_below Hwa.out hb)
  replace Hga := Aside0.mk (Kd.R_below Hga.out hb)
  replace HB := Aside0.mk (below_then HB.out HB.out.size hb)
  have HS11 := Aside0.mk (hb.size)
  clear hb
  go_wp2_with fail
  refine (toU_c HUS0.out hl0 HU0.out (Kd.C_below HR0.out HB.out) HC0.out HB.out.size).mono ?_
  rintro e w13 ⟨At0, ct0, rfl, ho, hb⟩
  replace Hwa := Aside0.mk (Kd.R_below Hwa.out hb)
  replace Hga := Aside0.mk (Kd.R_below Hga.out hb)
  replace HB := Aside0.mk (below_then HB.out HB.out.size hb)
  have HS12 := Aside0.mk (hb.size)
  clear hb
  have Ht0 := Aside0.mk ho
  clear ho
  go_wp2_with fail
  refine (impl_StartOrder.calls _ _ _ ans b _ (Kd.R_reads' Ht0.out).2.2 (Kd.R_reads' Ht0.out).2.1 HIM.out).mono ?_
  rintro e w14 ⟨vha, rfl, ho, hb⟩
  obtain ⟨Aha, cha, rfl⟩ := Kd.R_slice ho
  replace ho := R_span ho HB.out.size
  replace Hwa := Aside0.mk (Kd.R_below Hwa.out hb)
  replace Hga := Aside0.mk (Kd.R_below Hga.out hb)
  replace Ht0 := Aside0.mk (Kd.R_below Ht0.out hb)
  replace HB := Aside0.mk (below_then HB.out HB.out.size hb)
  have HS13 := Aside0.mk (hb.size)
  clear hb
  have Hha := Aside0.mk ho
  clear ho
  clear Ht0
  go_wp2_with fail
  refine (eqS_c (Kd.R_reads' Hha.out).2.2 (Kd.R_reads' Hha.out).2.1 (Kd.R_reads' Hwa.out).2.2 (Kd.R_reads' Hwa.out).2.1).mono ?_
  rintro e w15 ⟨rfl, hb⟩
  replace hb := drawn_b hb
  replace Hwa := Aside0.mk (Kd.R_below Hwa.out hb)
  replace Hga := Aside0.mk (Kd.R_below Hga.out hb)
  replace Hha := Aside0.mk (Kd.R_below Hha.out hb)
  replace HB := Aside0.mk (below_then HB.out HB.out.size hb)
  have HS14 := Aside0.mk (hb.size)
  clear hb
  go_wp2_with fail
  refine (held_c 1 HMK.out hans (by omega) (by omega) Hga.out rfl).mono ?_
  rintro e w16 ⟨rfl, hb⟩
  replace Hwa := Aside0.mk (Kd.R_below Hwa.out hb)
  replace Hga := Aside0.mk (Kd.R_below Hga.out hb)
  replace Hha := Aside0.mk (Kd.R_below Hha.out hb)
  replace HB := Aside0.mk (below_then HB.out HB.out.size hb)
  have HS15 := Aside0.mk (hb.size)
  clear hb
  go_wp2_with fail
  go_ret
  exact ⟨rfl, HB.out⟩
end Go.Proofs.Ytnjmhlhlmokjnaa.G
