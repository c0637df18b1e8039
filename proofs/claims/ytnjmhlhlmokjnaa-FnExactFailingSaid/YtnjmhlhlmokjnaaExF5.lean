/-
  Part 5 of the texts of this claim: GSpecL3Add, GSpecFailing, XPureAdd, XExFailing.
-/
import Derived.Test.YtnjmhlhlmokjnaaExF4
namespace Go.Proofs.Ytnjmhlhlmokjnaa.G
open Go.RowKit Go.Proofs.YtnjmhlhlmokjnaaW.PrintWords Go.Proofs.YtnjmhlhlmokjnaaW.PrintLast Go.Proofs.YtnjmhlhlmokjnaaW.PrintMore
attribute [local go_sem] max2_int min2_int max_two min_two max_three min_three max_four min_four
set_option linter.unusedVariables false
set_option linter.unusedSimpArgs false
def spec_l3Add.l0 : Nat → List ByteArray → ByteArray → Int → Option (List ByteArray)
  | 0, _, _, _ => none
  | k + 1, x0, x1, x5 => if x5 < (x0.length : Int) then (if 0 ≤ x5 then (if (Op.bytesLess ((rdOf ByteArray.empty x0 x5).toList) x1.toList) = true then (spec_l3Add.l0 k x0 x1 (wrap64 (x5 + 1))) else (if (rdOf ByteArray.empty x0 x5).toList = x1.toList then (some x0) else ((some (([] : List ByteArray) : List ByteArray)).bind fun y299 => (if x5 ≤ (x0.length : Int) then ((some (x0.take (x5 : Int).toNat : List ByteArray)).bind fun y302 => (if y299.length + y302.length < 8796093022208 then ((some (y299 ++ y302 : List ByteArray)).bind fun y306 => (if y306.length < 8796093022208 then ((some (y306 ++ [x1] : List ByteArray)).bind fun y309 => ((some (x0.drop (x5 : Int).toNat : List ByteArray)).bind fun y312 => (if y309.length + y312.length < 8796093022208 then (some (y309 ++ y312)) else (none)))) else (none))) else (none))) else (none))))) else (none)) else ((some (([] : List ByteArray) : List ByteArray)).bind fun y319 => (if 0 ≤ x5 then (if x5 ≤ (x0.length : Int) then ((some (x0.take (x5 : Int).toNat : List ByteArray)).bind fun y322 => (if y319.length + y322.length < 8796093022208 then ((some (y319 ++ y322 : List ByteArray)).bind fun y326 => (if y326.length < 8796093022208 then ((some (y326 ++ [x1] : List ByteArray)).bind fun y329 => ((some (x0.drop (x5 : Int).toNat : List ByteArray)).bind fun y332 => (if y329.length + y332.length < 8796093022208 then (some (y329 ++ y332)) else (none)))) else (none))) else (none))) else (none)) else (none)))
def spec_l3Add.f (k : Nat) (l0 : List ByteArray) (a1 : ByteArray) : Option (List ByteArray) := spec_l3Add.l0 k l0 a1 0
def spec_l3Add.T7 : Bool × List (List Nat × List Nat) := (true, [([], []), ([], []), ([1], [1]), ([0, 2], [0, 2]), ([], []), ([], []), ([4, 5], [4, 5]), ([3, 6, 3], [3, 6]), ([7, 7, 0, 1, 2, 3, 4, 5, 6, 7], [7])])
def spec_l3Add.B7 : List Nat := [0, 0, 2, 7, 0, 0, 48, 127, 255]
theorem spec_l3Add.tab7 : rtab .any (opsOf Try.f53 7) = spec_l3Add.T7 := by kernel_rfl
theorem spec_l3Add.bits7 : waitsOk spec_l3Add.T7.2 spec_l3Add.B7 = true := by kernel_rfl
set_option maxHeartbeats 8000000 in
set_option maxRecDepth 100000 in
theorem spec_l3Add.calls (k : Nat) (P0_ : Nat → Prop) (u9000_ : Value) (l0 : List ByteArray) (a1 : ByteArray) (r : List ByteArray) (w0 w : World) (hB : Below w0.heap.size w0 w) (ho0 : Kd.R Kd.string 9 w w0.heap.size P0_ u9000_ l0) (h : spec_l3Add.f k l0 a1 = some r) :
    Calls Try.prog 53 #[u9000_, .string a1] w fun e w' => ∃ v0_ : Value, e = .returned (v0_) ∧ Kd.R Kd.string 9 w' w0.heap.size (fun k_ => (P0_ k_ ∨ w.heap.size ≤ k_)) v0_ r ∧ Below w0.heap.size w0 w' ∧ Kept w w' (fun k_ => P0_ k_) := by
  have HO0 := Aside0.mk (show Kd.R Kd.string 9 w w0.heap.size (fun k_ => (P0_ k_ ∨ w.heap.size ≤ k_)) u9000_ l0 from Kd.R_mono ho0 (fun k_ hk => (.inl hk)))
  have HK := Aside0.mk (Kept.refl w (fun k_ => P0_ k_))
  have HW0 := Aside0.mk hB.size
  have HB := Aside0.mk hB
  clear hB
  have H : (spec_l3Add.l0 k l0 a1 0) = some r := h
  clear h
  have H' := Aside0.mk H
  clear H
  go_enter Try.func53, Try.ntmps53
  go_wp2
  go_loopg [5] k (fun kq v5 w' => ∃ (x5_1 : Int), v5 = .int .i64 x5_1 ∧ Aside0 (spec_l3Add.l0 kq l0 a1 x5_1 = some r) ∧ Aside0 (kq ≤ k) ∧ Aside0 (Kd.R Kd.string 9 w' w0.heap.size (fun k_ => (P0_ k_ ∨ w.heap.size ≤ k_)) u9000_ l0) ∧ Aside0 (Kept w w' (fun k_ => P0_ k_)) ∧ Aside0 (Below w0.heap.size w0 w'))
  case atStart => exact ⟨(0), (by first | rfl | (simp; done) | (simp [*]; done)), H', ⟨Nat.le_refl _⟩, ⟨by (with_reducible repeat (first | apply Kd.R_alloc | apply Kd.R_drewN | apply Kd.R_drew)); exact HO0.out⟩, ⟨by repeat (first | (with_reducible first | exact HK.out | apply Kept.alloc | apply Kept.drewN | apply Kept.drew) | exact HK.out)⟩, ⟨by repeat (first | (with_reducible first | exact HB.out | apply below_alloc | apply pw_below_drewN | apply below_drew1) | exact HB.out)⟩⟩
  case round =>
    clear H'
    try clear p2
    obtain ⟨x5_1, rfl, HA, HK1, HO_0, HK, HB⟩ := hrel
    cases gk with
    | zero => exact absurd HA.out (by simp [spec_l3Add.l0])
    | succ k1 =>
      have H := HA.out
      clear HA
      simp only [spec_l3Add.l0] at H
      by_cases c3 : x5_1 < (l0.length : Int)
      · rw [if_pos c3] at H
        have c3b0 : decide (x5_1 < (l0.length : Int)) = true := decide_eq_true c3
        clear c3
        by_cases c4 : 0 ≤ x5_1
        · rw [if_pos c4] at H
          have c4b0 : decide (0 ≤ x5_1) = true := decide_eq_true c4
          clear c4
          by_cases c5 : (Op.bytesLess ((rdOf ByteArray.empty l0 x5_1).toList) a1.toList) = true
          · rw [if_pos c5] at H
            have c5b0 : (Op.bytesLess ((rdOf ByteArray.empty l0 x5_1).toList) a1.toList) = true := c5
            clear c5
            have H' := Aside0.mk H
            clear H
            obtain ⟨Ao6, co6, eo6⟩ := Kd.R_slice HO_0.out
            subst eo6
            have p297 : 0 ≤ (x5_1 : Int) := of_decide_eq_true (by first | (with_reducible assumption) | assumption)
            have q297 : x5_1 < (l0.length : Int) := of_decide_eq_true (by first | (with_reducible assumption) | assumption)
            obtain ⟨ad297, e297, hx297_0⟩ := Kd.at_string (Kd.R_reads' HO_0.out).2.2 x5_1 p297 q297
            cases e297
            replace p297 := eq_true p297
            replace q297 := eq_true q297
            go_wp2
            go_roundg k1
            case measure => have := HK1.out; omega
            case rel => exact ⟨(wrap64 (x5_1 + 1)), (by first | rfl | (simp; done) | (simp [*]; done)), H', ⟨by have := HK1.out; omega⟩, ⟨by (with_reducible repeat (first | apply Kd.R_alloc | apply Kd.R_drewN | apply Kd.R_drew)); exact HO_0.out⟩, ⟨by repeat (first | (with_reducible first | exact HK.out | apply Kept.alloc | apply Kept.drewN | apply Kept.drew) | exact HK.out)⟩, ⟨by repeat (first | (with_reducible first | exact HB.out | apply below_alloc | apply pw_below_drewN | apply below_drew1) | exact HB.out)⟩⟩
          · rw [if_neg c5] at H
            have c5b0 : (Op.bytesLess ((rdOf ByteArray.empty l0 x5_1).toList) a1.toList) = false := by simpa using c5
            clear c5
            by_cases c7 : (rdOf ByteArray.empty l0 x5_1).toList = a1.toList
            · rw [if_pos c7] at H
              have c7b0 : ((rdOf ByteArray.empty l0 x5_1).toList == a1.toList) = true := beq_iff_eq.mpr c7
              have c7b1 : ((rdOf ByteArray.empty l0 x5_1).toList != a1.toList) = false := bne_eq_false_iff_eq.mpr c7
              clear c7
              obtain rfl := Option.some.inj H
              obtain ⟨Ao8, co8, eo8⟩ := Kd.R_slice HO_0.out
              subst eo8
              have p297 : 0 ≤ (x5_1 : Int) := of_decide_eq_true (by first | (with_reducible assumption) | assumption)
              have q297 : x5_1 < (l0.length : Int) := of_decide_eq_true (by first | (with_reducible assumption) | assumption)
              obtain ⟨ad297, e297, hx297_0⟩ := Kd.at_string (Kd.R_reads' HO_0.out).2.2 x5_1 p297 q297
              cases e297
              replace p297 := eq_true p297
              replace q297 := eq_true q297
              have p298 : 0 ≤ (x5_1 : Int) := of_decide_eq_true (by first | (with_reducible assumption) | assumption)
              have q298 : x5_1 < (l0.length : Int) := of_decide_eq_true (by first | (with_reducible assumption) | assumption)
              obtain ⟨ad298, e298, hx298_0⟩ := Kd.at_string (Kd.R_reads' HO_0.out).2.2 x5_1 p298 q298
              obtain rfl : ad297 = ad298 := (by injection e298)
              replace p298 := eq_true p298
              replace q298 := eq_true q298
              go_wp2
              go_ret
              exact ⟨_, by first | rfl | (simp [errW_none, errW_some] <;> rfl) | (simp [*, errW_none, errW_some] <;> rfl), by (with_reducible repeat (first | apply Kd.R_alloc | apply Kd.R_drewN | apply Kd.R_drew)); exact HO_0.out, by repeat (first | (with_reducible first | exact HB.out | apply below_alloc | apply pw_below_drewN | apply below_drew1) | exact HB.out), by repeat (first | (with_reducible first | exact HK.out | apply Kept.alloc | apply Kept.drewN | apply Kept.drew) | exact HK.out)⟩
            · rw [if_neg c7] at H
              have c7b0 : ((rdOf ByteArray.empty l0 x5_1).toList == a1.toList) = false := beq_eq_false_iff_ne.mpr c7
              have c7b1 : ((rdOf ByteArray.empty l0 x5_1).toList != a1.toList) = true := bne_iff_ne.mpr c7
              obtain ⟨y299, hy299⟩ : ∃ y_ : List ByteArray, y_ = (([] : List ByteArray)) := ⟨_, rfl⟩
              replace H : (if x5_1 ≤ (l0.length : Int) then ((some (l0.take (x5_1 : Int).toNat : List ByteArray)).bind fun y302 => (if y299.length + y302.length < 8796093022208 then ((some (y299 ++ y302 : List ByteArray)).bind fun y306 => (if y306.length < 8796093022208 then ((some (y306 ++ [a1] : List ByteArray)).bind fun y309 => ((some (l0.drop (x5_1 : Int).toNat : List ByteArray)).bind fun y312 => (if y309.length + y312.length < 8796093022208 then (some (y309 ++ y312)) else (none)))) else (none))) else (none))) else (none)) = some r := by first | (rw [hy299]; with_reducible exact H) | (have H2_ := (Option.bind_some _ _).symm.trans H; rw [hy299]; with_reducible exact H2_) | (have H2_ := (Option.bind_some _ _).symm.trans H; with_reducible exact H2_) | with_reducible exact H | (rw [hy299]; exact H) | exact H
              have Ny299 := Aside0.mk hy299
              clear hy299
              have c9b0 := eq_true (of_decide_eq_true (by first | (with_reducible assumption) | assumption) : 0 ≤ x5_1)
              by_cases c10 : x5_1 ≤ (l0.length : Int)
              · rw [if_pos c10] at H
                have c10b0 := eq_true c10
                have c10b1 : decide (x5_1 ≤ (l0.length : Int)) = true := decide_eq_true c10
                clear c10
                obtain ⟨y302, hy302⟩ : ∃ y_ : List ByteArray, y_ = (l0.take (x5_1 : Int).toNat) := ⟨_, rfl⟩
                replace H : (if y299.length + y302.length < 8796093022208 then ((some (y299 ++ y302 : List ByteArray)).bind fun y306 => (if y306.length < 8796093022208 then ((some (y306 ++ [a1] : List ByteArray)).bind fun y309 => ((some (l0.drop (x5_1 : Int).toNat : List ByteArray)).bind fun y312 => (if y309.length + y312.length < 8796093022208 then (some (y309 ++ y312)) else (none)))) else (none))) else (none)) = some r := by first | (rw [hy302]; with_reducible exact H) | (have H2_ := (Option.bind_some _ _).symm.trans H; rw [hy302]; with_reducible exact H2_) | (have H2_ := (Option.bind_some _ _).symm.trans H; with_reducible exact H2_) | with_reducible exact H | (rw [hy302]; exact H) | exact H
                have Ny302 := Aside0.mk hy302
                clear hy302
                by_cases c11 : y299.length + y302.length < 8796093022208
                · rw [if_pos c11] at H
                  have LMc11 := Aside0.mk c11
                  clear c11
                  obtain ⟨y306, hy306⟩ : ∃ y_ : List ByteArray, y_ = (y299 ++ y302) := ⟨_, rfl⟩
                  replace H : (if y306.length < 8796093022208 then ((some (y306 ++ [a1] : List ByteArray)).bind fun y309 => ((some (l0.drop (x5_1 : Int).toNat : List ByteArray)).bind fun y312 => (if y309.length + y312.length < 8796093022208 then (some (y309 ++ y312)) else (none)))) else (none)) = some r := by first | (rw [hy306]; with_reducible exact H) | (have H2_ := (Option.bind_some _ _).symm.trans H; rw [hy306]; with_reducible exact H2_) | (have H2_ := (Option.bind_some _ _).symm.trans H; with_reducible exact H2_) | with_reducible exact H | (rw [hy306]; exact H) | exact H
                  have Ny306 := Aside0.mk hy306
                  clear hy306
                  by_cases c12 : y306.length < 8796093022208
                  · rw [if_pos c12] at H
                    have LMc12 := Aside0.mk c12
                    clear c12
                    obtain ⟨y309, hy309⟩ : ∃ y_ : List ByteArray, y_ = (y306 ++ [a1]) := ⟨_, rfl⟩
                    replace H : ((some (l0.drop (x5_1 : Int).toNat : List ByteArray)).bind fun y312 => (if y309.length + y312.length < 8796093022208 then (some (y309 ++ y312)) else (none))) = some r := by first | (rw [hy309]; with_reducible exact H) | (have H2_ := (Option.bind_some _ _).symm.trans H; rw [hy309]; with_reducible exact H2_) | (have H2_ := (Option.bind_some _ _).symm.trans H; with_reducible exact H2_) | with_reducible exact H | (rw [hy309]; exact H) | exact H
                    have Ny309 := Aside0.mk hy309
                    clear hy309
                    have c13b0 := eq_true (of_decide_eq_true (by first | (with_reducible assumption) | assumption) : 0 ≤ x5_1)
                    have c14b0 := eq_true (of_decide_eq_true (by first | (with_reducible assumption) | assumption) : x5_1 ≤ (l0.length : Int))
                    obtain ⟨y312, hy312⟩ : ∃ y_ : List ByteArray, y_ = (l0.drop (x5_1 : Int).toNat) := ⟨_, rfl⟩
                    replace H : (if y309.length + y312.length < 8796093022208 then (some (y309 ++ y312)) else (none)) = some r := by first | (rw [hy312]; with_reducible exact H) | (have H2_ := (Option.bind_some _ _).symm.trans H; rw [hy312]; with_reducible exact H2_) | (have H2_ := (Option.bind_some _ _).symm.trans H; with_reducible exact H2_) | with_reducible exact H | (rw [hy312]; exact H) | exact H
                    have Ny312 := Aside0.mk hy312
                    clear hy312
                    by_cases c15 : y309.length + y312.length < 8796093022208
                    · rw [if_pos c15] at H
                      have LMc15 := Aside0.mk c15
                      clear c15
                      obtain ⟨y316, hy316⟩ : ∃ y_ : List ByteArray, y_ = (y309 ++ y312) := ⟨_, rfl⟩
                      replace H : (some y316) = some r := by first | (rw [hy316]; with_reducible exact H) | (have H2_ := (Option.bind_some _ _).symm.trans H; rw [hy316]; with_reducible exact H2_) | (have H2_ := (Option.bind_some _ _).symm.trans H; with_reducible exact H2_) | with_reducible exact H | (rw [hy316]; exact H) | exact H
                      have Ny316 := Aside0.mk hy316
                      clear hy316
                      obtain rfl := Option.some.inj H
                      obtain ⟨Ao16, co16, eo16⟩ := Kd.R_slice HO_0.out
                      subst eo16
                      have p297 : 0 ≤ (x5_1 : Int) := of_decide_eq_true (by first | (with_reducible assumption) | assumption)
                      have q297 : x5_1 < (l0.length : Int) := of_decide_eq_true (by first | (with_reducible assumption) | assumption)
                      obtain ⟨ad297, e297, hx297_0⟩ := Kd.at_string (Kd.R_reads' HO_0.out).2.2 x5_1 p297 q297
                      cases e297
                      replace p297 := eq_true p297
                      replace q297 := eq_true q297
                      have p298 : 0 ≤ (x5_1 : Int) := of_decide_eq_true (by first | (with_reducible assumption) | assumption)
                      have q298 : x5_1 < (l0.length : Int) := of_decide_eq_true (by first | (with_reducible assumption) | assumption)
                      obtain ⟨ad298, e298, hx298_0⟩ := Kd.at_string (Kd.R_reads' HO_0.out).2.2 x5_1 p298 q298
                      obtain rfl : ad297 = ad298 := (by injection e298)
                      replace p298 := eq_true p298
                      replace q298 := eq_true q298
                      try go_wp2_with (first | ((with_reducible refine gate_dst (N := 34) rfl ?_); refine Kd.R_lit Kd.string _ 9 ?hg (N := 34) ?hd (xs := ([] : List ByteArray)) (inner := []) (ok := fun _ => True) (okp := fun _ => True) ?hr ?hp (fun _ hk => hk) trivial (Below.refl _ _) (Nat.le_refl _) (by simp) ?_; (case hd => rfl); (case hg => rfl); (case hr => first | (go_simp; done) | (go_simp; rfl)); (case hp => exact (Reps.none _ _)); intro v300 w17 ho18 hb hg_ hnew_; clear hg_ hnew_; (first | rw [← Ny299.out] at ho18 | (simp only [Int.reduceToNat] at ho18; rw [← Ny299.out] at ho18)); have n0_ := Aside0.mk (Kd.R_elder' (by (with_reducible repeat (first | apply Kd.R_alloc | apply Kd.R_drewN | apply Kd.R_drew)); exact HO_0.out) (Kd.R_base ho18) hb); have n1_ := Aside0.mk (Kd.R_lower (Kd.R_new' (Kd.R_newM (M := fun k_ => (P0_ k_ ∨ w.heap.size ≤ k_)) ho18 (by first | exact HK.out.1 | exact (show Kept w _ (fun k_ => P0_ k_) from by repeat (first | (with_reducible first | exact HK.out | apply Kept.alloc | apply Kept.drewN | apply Kept.drew) | exact HK.out)).1) (fun k_ h_ => .inr h_)) (Kd.R_lt (by (with_reducible repeat (first | apply Kd.R_alloc | apply Kd.R_drewN | apply Kd.R_drew)); exact HO_0.out))) (below_size (by repeat (first | (with_reducible first | exact HB.out | apply below_alloc | apply pw_below_drewN | apply below_drew1) | exact HB.out)))); have n2_ := Aside0.mk (Kept.below (S := (fun k_ => P0_ k_)) (by repeat (first | (with_reducible first | exact HK.out | apply Kept.alloc | apply Kept.drewN | apply Kept.drew) | exact HK.out)) hb); have n3_ := Aside0.mk (below_step (by repeat (first | (with_reducible first | exact HB.out | apply below_alloc | apply pw_below_drewN | apply below_drew1) | exact HB.out)) hb); clear HO_0; clear HK; clear HB; have HO_0 := n0_; have HO301 := n1_; have HK := n2_; have HB := n3_; clear n0_ n1_ n2_ n3_; clear hb ho18; have q19 : (x5_1 : Int) ≤ ((l0.length : Int) : Int) := of_decide_eq_true (by first | (with_reducible assumption) | assumption); obtain ⟨i019, hi019, _, hsz19, _⟩ := info_parts info9; have hroom19 : l0.length ≤ co16 := (Kd.R_reads' HO_0.out).2.1; have hC19 : Kd.C Kd.string _ (some ad297) l0.length l0 := (Kd.R_reads' HO_0.out).2.2; have hcut19 := cut_to (P := Try.prog) 25 9 .i64 Try.underlying25 hi019 (some ad297) l0.length co16 x5_1 (of_decide_eq_true (by first | (with_reducible assumption) | assumption)) q19 hroom19; have hr19 := Kd.C_take (m := (x5_1 : Int).toNat) hC19 (by omega); have hy19 : y302.length = (x5_1 : Int).toNat := (by rw [Ny302.out, List.length_take]; omega); rw [← Ny302.out] at hr19; rw [← hy19] at hcut19; have HR305 := Aside0.mk hr19; have HC305 := Aside0.mk (show y302.length ≤ co16 from by omega); clear hr19 hC19 hroom19 hi019 hsz19; have KY19 := Aside0.mk hy19; clear hy19; have KL19 := Aside0.mk (show (x5_1 : Int).toNat ≤ l0.length from by omega); replace q19 := eq_true q19) | ((with_reducible refine gate_builtin (b := .append) (xs := #[.tmp 34, .tmp 37]) rfl ?_); at_builtin; refine Kd.R_append_rows Kd.string (w0 := w0) w0.heap.size rfl (.tmp 34) (.tmp 37) 25 9 (.string ⟨#[]⟩) 16 rfl Try.underlying25 info9 rfl (by decide) (by omega) v300 y299 y302 _ _ _ (fun k_ => (P0_ k_ ∨ w.heap.size ≤ k_) ∧ some k_ ≠ (.slice (some ad297) l0.length co16 : Value).ownBlock) (fun _ => False) rfl rfl ?aO ?aR (fun _ _ h => h) (fun _ h => h.elim) ?aF ?aB ?aS ?aL ?_; (case aR => repeat (first | exact (by repeat (first | (with_reducible exact HR305.out) | (with_reducible refine Kd.C_alloc ?_ _) | (with_reducible refine Kd.C_drewN ?_ _) | (with_reducible refine Kd.C_drew ?_) | exact HR305.out)) | (with_reducible refine Kd.C_alloc ?_ _) | (with_reducible refine Kd.C_drewN ?_ _) | (with_reducible refine Kd.C_drew ?_))); (case aB => exact (by repeat (first | (with_reducible first | exact HB.out | apply below_alloc | apply pw_below_drewN | apply below_drew1) | exact HB.out))); (case aF => exact (fun k_ hk => ⟨(.inr (Nat.le_trans (by first | exact HK.out.1 | exact (show Kept w _ (fun k_ => P0_ k_) from by repeat (first | (with_reducible first | exact HK.out | apply Kept.alloc | apply Kept.drewN | apply Kept.drew) | exact HK.out)).1) hk)), Kd.fresh' (Kd.R_lt (by (with_reducible repeat (first | apply Kd.R_alloc | apply Kd.R_drewN | apply Kd.R_drew)); exact HO_0.out)) k_ hk⟩)); (case aO => exact (by (with_reducible repeat (first | apply Kd.R_alloc | apply Kd.R_drewN | apply Kd.R_drew)); exact Kd.R_mono HO301.out (fun _ hk => ⟨hk.1.1, hk.2⟩))); (case aS => exact (below_size (by repeat (first | (with_reducible first | exact HB.out | apply below_alloc | apply pw_below_drewN | apply below_drew1) | exact HB.out)))); (case aL => have := LMc11.out; omega); intro v307 w20 ho hb hg hat; rw [← Ny306.out] at ho; have n0_ := Aside0.mk (Kd.R_after (ok := (fun k_ => (P0_ k_ ∨ w.heap.size ≤ k_))) (by (with_reducible repeat (first | apply Kd.R_alloc | apply Kd.R_drewN | apply Kd.R_drew)); exact HO_0.out) hg hat); have n1_ := Aside0.mk (hb); have n2_ := Aside0.mk (Kept.of_grown (S := (fun k_ => P0_ k_)) hg (by repeat (first | (with_reducible first | exact HK.out | apply Kept.alloc | apply Kept.drewN | apply Kept.drew) | exact HK.out)) (fun k_ e_ => (HO301.out.1 k_ e_).1.1)); have n3_ := Aside0.mk ((show Kd.C Kd.string w20 (some ad297) y302.length y302 from by rw [Ny302.out]; exact Kd.C_take (m := (x5_1 : Int).toNat) ((Kd.R_reads' (Kd.R_after (ok := (fun k_ => (P0_ k_ ∨ w.heap.size ≤ k_))) (by (with_reducible repeat (first | apply Kd.R_alloc | apply Kd.R_drewN | apply Kd.R_drew)); exact HO_0.out) hg hat)).2.2) KL19.out)); have n4_ := Aside0.mk (ho); clear HO_0; clear HB; clear HK; clear HR305; clear HO301; have HO_0 := n0_; have HB := n1_; have HK := n2_; have HR305 := n3_; have HO308 := n4_; clear n0_ n1_ n2_ n3_ n4_; clear ho hb hg hat))
                      have n0_ := Aside0.mk (Kd.R_drew HO_0.out)
                      have n1_ := Aside0.mk (Kd.R_drew HO308.out)
                      have n2_ := Aside0.mk (Kd.C_drew HR305.out)
                      have n3_ := Aside0.mk (Kept.drew HK.out)
                      have n4_ := Aside0.mk (below_drew1 HB.out)
                      clear HO_0
                      clear HO308
                      clear HR305
                      clear HK
                      clear HB
                      have HO_0 := n0_
                      have HO308 := n1_
                      have HR305 := n2_
                      have HK := n3_
                      have HB := n4_
                      clear n0_ n1_ n2_ n3_ n4_
                      have q22 : (x5_1 : Int) ≤ ((l0.length : Int) : Int) := of_decide_eq_true (by first | (with_reducible assumption) | assumption)
                      obtain ⟨i022, hi022, _, hsz22, _⟩ := info_parts info9
                      have hroom22 : l0.length ≤ co16 := (Kd.R_reads' HO_0.out).2.1
                      have hC22 : Kd.C Kd.string _ (some ad297) l0.length l0 := (Kd.R_reads' HO_0.out).2.2
                      have q022 : (0 : Int) ≤ (x5_1 : Int) := of_decide_eq_true (by first | (with_reducible assumption) | assumption)
                      have hcut22 := cut_from (P := Try.prog) 25 9 .i64 Try.underlying25 hi022 1 hsz22 (some ad297) l0.length co16 x5_1 q022 q22
                      have hr22 := Kd.C_drop (m := (x5_1 : Int).toNat) (c := co16) hC22 (by omega) hroom22
                      obtain ⟨A22, hA22⟩ : ∃ A1, A1 = (if co16 = (x5_1 : Int).toNat then (some ad297) else ((some ad297) : Option Addr).map (·.add ((x5_1 : Int).toNat * 1))) := ⟨_, rfl⟩
                      obtain ⟨c22, hc22⟩ : ∃ c1, c1 = co16 - (x5_1 : Int).toNat := ⟨_, rfl⟩
                      have hy22 : y312.length = l0.length - (x5_1 : Int).toNat := (by rw [Ny312.out, List.length_drop] <;> omega)
                      rw [show (l0).drop (x5_1 : Int).toNat = y312 from Ny312.out.symm] at hr22
                      replace hr22 : Kd.C Kd.string _ A22 y312.length y312 := (by rw [hA22]; exact hr22)
                      rw [← hy22, ← hA22, ← hc22] at hcut22
                      have HR315 := Aside0.mk hr22
                      have HC315 := Aside0.mk (show y312.length ≤ c22 from by rw [hy22, hc22]; exact Nat.sub_le_sub_right hroom22 _)
                      clear hr22 hC22 hroom22 hi022 hsz22 hc22
                      have KY22 := Aside0.mk hy22
                      have KA22 := Aside0.mk hA22
                      clear hy22 hA22
                      have KL22 := Aside0.mk (show (x5_1 : Int).toNat ≤ l0.length from by omega)
                      replace q22 := eq_true q22
                      refine start_ (n := 9) (S := fun w' => True) (ds := []) #[false, false, false, false, false, false, false, false, false] (by kernel_rfl) rfl rfl trivial (fun hHeld => ?_); refine with_tabW spec_l3Add.tab7 spec_l3Add.bits7 (fun HT_ HW_ => ?_)
                      generalize w20.drew = w21 at HO_0 HO308 HR305 HK HB HR315 hHeld ⊢
                      refine pure_ (i := 0) (N := some 39) (v := ?_) (a' := ?_) #[true, false, false, false, false, false, false, false, false] rfl rfl (any_of HT_.out (by kernel_rfl)) (fun _ _ _ h => h) (Or.inl ⟨by rfl, ?_⟩) ?_ ?_
                      rotate_left
                      · intro w'
                        go_simp
                        with_reducible rfl
                      rotate_left
                      · simp only [Act.put, List.setIfInBounds_toArray, List.set_cons_zero, List.set_cons_succ, i64_w, i32_w]
                        rfl
                      refine pure_ (i := 1) (N := some 40) (v := ?_) (a' := ?_) #[true, true, false, false, false, false, false, false, false] rfl rfl (any_of HT_.out (by kernel_rfl)) (fun _ _ _ h => h) (Or.inl ⟨by rfl, ?_⟩) ?_ ?_
                      rotate_left
                      · intro w'
                        go_simp
                        with_reducible rfl
                      rotate_left
                      · simp only [Act.put, List.setIfInBounds_toArray, List.set_cons_zero, List.set_cons_succ, i64_w, i32_w]
                        rfl
                      refine pure_ (i := 4) (N := some 43) (v := ?_) (a' := ?_) #[true, true, false, false, true, false, false, false, false] rfl rfl (any_of HT_.out (by kernel_rfl)) (fun _ _ _ h => h) (Or.inl ⟨by rfl, ?_⟩) ?_ ?_
                      rotate_left
                      · intro w'
                        go_simp
                        with_reducible rfl
                      rotate_left
                      · simp only [Act.put, List.setIfInBounds_toArray, List.set_cons_zero, List.set_cons_succ, i64_w, i32_w]
                        rfl
                      refine pure_ (i := 5) (N := some 44) (v := ?_) (a' := ?_) #[true, true, false, false, true, true, false, false, false] rfl rfl (any_of HT_.out (by kernel_rfl)) (fun _ _ _ h => h) (Or.inl ⟨by rfl, ?_⟩) ?_ ?_
                      rotate_left
                      · intro w'
                        go_simp
                        with_reducible rfl
                      rotate_left
                      · simp only [Act.put, List.setIfInBounds_toArray, List.set_cons_zero, List.set_cons_succ, i64_w, i32_w]
                        rfl
                      refine pure_ (i := 6) (N := some 45) (v := ?_) (a' := ?_) #[true, true, false, false, true, true, true, false, false] rfl rfl (any_of HT_.out (by kernel_rfl)) (fun _ _ _ h => h) (Or.inl ⟨by rfl, ?_⟩) ?_ ?_
                      rotate_left
                      · intro w'
                        go_simp
                        with_reducible rfl
                      rotate_left
                      · simp only [Act.put, List.setIfInBounds_toArray, List.set_cons_zero, List.set_cons_succ, i64_w, i32_w]
                        rfl
                      refine one_ (i := 2) (N := some 41) #[true, true, true, false, true, true, true, false, false] rfl rfl (one_of HT_.out (by kernel_rfl)) (by decide) (fun K hK => ?_)
                      refine value_ (w1 := ?_) (v := ?_) (by rfl) rfl ?_ ?_
                      rotate_left 2
                      · go_simp
                        constructor
                        · rfl
                        · rfl
                      refine hK.out _ _ trivial (fun hHeld => ?_)
                      clear hK K
                      refine norm_ (a' := ?_) ?_ ?_
                      rotate_left
                      · show Act.put _ (some 41) _ = _
                        simp only [Act.put, List.setIfInBounds_toArray, List.set_cons_zero, List.set_cons_succ, i64_w, i32_w]
                        rfl
                      refine one_ (i := 3) (N := some 42) #[true, true, true, true, true, true, true, false, false] rfl rfl (one_of HT_.out (by kernel_rfl)) (by decide) (fun K hK => ?_)
                      refine Kd.R_append_step Kd.string (w0 := w0) w0.heap.size (by rfl) (.tmp 39) (.tmp 41) 25 9 (.string ⟨#[]⟩) 16 rfl Try.underlying25 info9 rfl (by decide) (by omega) v307 y306 a1 [.string a1] (fun k_ => (P0_ k_ ∨ w.heap.size ≤ k_) ∧ some k_ ≠ (.slice (some ad297) l0.length co16 : Value).ownBlock) (fun _ => False) rfl rfl ?aP (fun _ hk => hk.elim) ?aF ?aO ?aB ?aS ?aL ?_
                      (case aP => exact rfl)
                      (case aB => exact (by repeat (first | (with_reducible first | exact HB.out | apply below_alloc | apply pw_below_drewN | apply below_drew1) | exact HB.out)))
                      (case aF => exact (fun k_ hk => ⟨(.inr (Nat.le_trans (by first | exact HK.out.1 | exact (show Kept w _ (fun k_ => P0_ k_) from by repeat (first | (with_reducible first | exact HK.out | apply Kept.alloc | apply Kept.drewN | apply Kept.drew) | exact HK.out)).1) hk)), Kd.fresh' (Kd.R_lt (by (with_reducible repeat (first | apply Kd.R_alloc | apply Kd.R_drewN | apply Kd.R_drew)); exact HO_0.out)) k_ hk⟩))
                      (case aO => exact (by (with_reducible repeat (first | apply Kd.R_alloc | apply Kd.R_drewN | apply Kd.R_drew)); exact HO308.out))
                      (case aS => exact (below_size (by repeat (first | (with_reducible first | exact HB.out | apply below_alloc | apply pw_below_drewN | apply below_drew1) | exact HB.out))))
                      (case aL => have := LMc12.out; omega)
                      intro v310 w23 ho hb hg hat
                      rw [← Ny309.out] at ho
                      have n0_ := Aside0.mk (Kd.R_after (ok := (fun k_ => (P0_ k_ ∨ w.heap.size ≤ k_))) (by (with_reducible repeat (first | apply Kd.R_alloc | apply Kd.R_drewN | apply Kd.R_drew)); exact HO_0.out) hg hat)
                      have n1_ := Aside0.mk (hb)
                      have n2_ := Aside0.mk (Kept.of_grown (S := (fun k_ => P0_ k_)) hg (by repeat (first | (with_reducible first | exact HK.out | apply Kept.alloc | apply Kept.drewN | apply Kept.drew) | exact HK.out)) (fun k_ e_ => (HO308.out.1 k_ e_).1))
                      have n3_ := Aside0.mk ((show Kd.C Kd.string w23 (some ad297) y302.length y302 from by rw [Ny302.out]; exact Kd.C_take (m := (x5_1 : Int).toNat) ((Kd.R_reads' (Kd.R_after (ok := (fun k_ => (P0_ k_ ∨ w.heap.size ≤ k_))) (by (with_reducible repeat (first | apply Kd.R_alloc | apply Kd.R_drewN | apply Kd.R_drew)); exact HO_0.out) hg hat)).2.2) KL19.out))
                      have n4_ := Aside0.mk ((show Kd.C Kd.string w23 A22 y312.length y312 from by rw [Ny312.out, KA22.out]; exact Kd.C_drop (m := (x5_1 : Int).toNat) (c := co16) ((Kd.R_reads' (Kd.R_after (ok := (fun k_ => (P0_ k_ ∨ w.heap.size ≤ k_))) (by (with_reducible repeat (first | apply Kd.R_alloc | apply Kd.R_drewN | apply Kd.R_drew)); exact HO_0.out) hg hat)).2.2) KL22.out ((Kd.R_reads' (Kd.R_after (ok := (fun k_ => (P0_ k_ ∨ w.heap.size ≤ k_))) (by (with_reducible repeat (first | apply Kd.R_alloc | apply Kd.R_drewN | apply Kd.R_drew)); exact HO_0.out) hg hat)).2.1)))
                      have n5_ := Aside0.mk (ho)
                      clear HO_0
                      clear HB
                      clear HK
                      clear HR305
                      clear HR315
                      clear HO308
                      have HO_0 := n0_
                      have HB := n1_
                      have HK := n2_
                      have HR305 := n3_
                      have HR315 := n4_
                      have HO311 := n5_
                      clear n0_ n1_ n2_ n3_ n4_ n5_
                      clear ho hb hg hat
                      refine hK.out _ _ trivial (fun hHeld => ?_)
                      clear hK K
                      refine norm_ (a' := ?_) ?_ ?_
                      rotate_left
                      · show Act.put _ (some 42) _ = _
                        simp only [Act.put, List.setIfInBounds_toArray, List.set_cons_zero, List.set_cons_succ, i64_w, i32_w]
                        rfl
                      refine one_ (i := 7) (N := some 46) #[true, true, true, true, true, true, true, true, false] rfl rfl (one_of HT_.out (by kernel_rfl)) (by decide) (fun K hK => ?_)
                      refine Kd.R_append_rows_step Kd.string (w0 := w0) w0.heap.size (by rfl) (.tmp 42) (.tmp 45) 25 9 (.string ⟨#[]⟩) 16 rfl Try.underlying25 info9 rfl (by decide) (by omega) v310 y309 y312 _ _ _ (fun k_ => (P0_ k_ ∨ w.heap.size ≤ k_) ∧ some k_ ≠ (.slice (some ad297) l0.length co16 : Value).ownBlock) (fun _ => False) rfl rfl ?aO ?aR (fun _ _ h => h) (fun _ h => h.elim) ?aF ?aB ?aS ?aL ?_
                      (case aR => repeat (first | exact (by repeat (first | (with_reducible exact HR315.out) | (with_reducible refine Kd.C_alloc ?_ _) | (with_reducible refine Kd.C_drewN ?_ _) | (with_reducible refine Kd.C_drew ?_) | exact HR315.out)) | (with_reducible refine Kd.C_alloc ?_ _) | (with_reducible refine Kd.C_drewN ?_ _) | (with_reducible refine Kd.C_drew ?_)))
                      (case aB => exact (by repeat (first | (with_reducible first | exact HB.out | apply below_alloc | apply pw_below_drewN | apply below_drew1) | exact HB.out)))
                      (case aF => exact (fun k_ hk => ⟨(.inr (Nat.le_trans (by first | exact HK.out.1 | exact (show Kept w _ (fun k_ => P0_ k_) from by repeat (first | (with_reducible first | exact HK.out | apply Kept.alloc | apply Kept.drewN | apply Kept.drew) | exact HK.out)).1) hk)), Kd.fresh' (Kd.R_lt (by (with_reducible repeat (first | apply Kd.R_alloc | apply Kd.R_drewN | apply Kd.R_drew)); exact HO_0.out)) k_ hk⟩))
                      (case aO => exact (by (with_reducible repeat (first | apply Kd.R_alloc | apply Kd.R_drewN | apply Kd.R_drew)); exact HO311.out))
                      (case aS => exact (below_size (by repeat (first | (with_reducible first | exact HB.out | apply below_alloc | apply pw_below_drewN | apply below_drew1) | exact HB.out))))
                      (case aL => have := LMc15.out; omega)
                      intro v317 w24 ho hb hg hat
                      rw [← Ny316.out] at ho
                      have n0_ := Aside0.mk (Kd.R_after (ok := (fun k_ => (P0_ k_ ∨ w.heap.size ≤ k_))) (by (with_reducible repeat (first | apply Kd.R_alloc | apply Kd.R_drewN | apply Kd.R_drew)); exact HO_0.out) hg hat)
                      have n1_ := Aside0.mk (hb)
                      have n2_ := Aside0.mk (Kept.of_grown (S := (fun k_ => P0_ k_)) hg (by repeat (first | (with_reducible first | exact HK.out | apply Kept.alloc | apply Kept.drewN | apply Kept.drew) | exact HK.out)) (fun k_ e_ => (HO311.out.1 k_ e_).1))
                      have n3_ := Aside0.mk ((show Kd.C Kd.string w24 (some ad297) y302.length y302 from by rw [Ny302.out]; exact Kd.C_take (m := (x5_1 : Int).toNat) ((Kd.R_reads' (Kd.R_after (ok := (fun k_ => (P0_ k_ ∨ w.heap.size ≤ k_))) (by (with_reducible repeat (first | apply Kd.R_alloc | apply Kd.R_drewN | apply Kd.R_drew)); exact HO_0.out) hg hat)).2.2) KL19.out))
                      have n4_ := Aside0.mk ((show Kd.C Kd.string w24 A22 y312.length y312 from by rw [Ny312.out, KA22.out]; exact Kd.C_drop (m := (x5_1 : Int).toNat) (c := co16) ((Kd.R_reads' (Kd.R_after (ok := (fun k_ => (P0_ k_ ∨ w.heap.size ≤ k_))) (by (with_reducible repeat (first | apply Kd.R_alloc | apply Kd.R_drewN | apply Kd.R_drew)); exact HO_0.out) hg hat)).2.2) KL22.out ((Kd.R_reads' (Kd.R_after (ok := (fun k_ => (P0_ k_ ∨ w.heap.size ≤ k_))) (by (with_reducible repeat (first | apply Kd.R_alloc | apply Kd.R_drewN | apply Kd.R_drew)); exact HO_0.out) hg hat)).2.1)))
                      have n5_ := Aside0.mk (ho)
                      clear HO_0
                      clear HB
                      clear HK
                      clear HR305
                      clear HR315
                      clear HO311
                      have HO_0 := n0_
                      have HB := n1_
                      have HK := n2_
                      have HR305 := n3_
                      have HR315 := n4_
                      have HO318 := n5_
                      clear n0_ n1_ n2_ n3_ n4_ n5_
                      clear ho hb hg hat
                      refine hK.out _ _ trivial (fun hHeld => ?_)
                      clear hK K
                      refine norm_ (a' := ?_) ?_ ?_
                      rotate_left
                      · show Act.put _ (some 46) _ = _
                        simp only [Act.put, List.setIfInBounds_toArray, List.set_cons_zero, List.set_cons_succ, i64_w, i32_w]
                        rfl
                      refine pure_ (i := 8) (N := some 4) (v := ?_) (a' := ?_) #[true, true, true, true, true, true, true, true, true] rfl rfl (any_of HT_.out (by kernel_rfl)) (fun _ _ _ h => h) (Or.inl ⟨by rfl, ?_⟩) ?_ ?_
                      rotate_left
                      · intro w'
                        go_simp
                        with_reducible rfl
                      rotate_left
                      · simp only [Act.put, List.setIfInBounds_toArray, List.set_cons_zero, List.set_cons_succ, i64_w, i32_w]
                        rfl
                      refine done_ (done_of HT_.out (by kernel_rfl)) ?_
                      try go_wp2
                      go_ret
                      exact ⟨_, by first | rfl | (simp [errW_none, errW_some] <;> rfl) | (simp [*, errW_none, errW_some] <;> rfl), by (with_reducible repeat (first | apply Kd.R_alloc | apply Kd.R_drewN | apply Kd.R_drew)); exact Kd.R_mono HO318.out (fun _ hk => hk.1), by repeat (first | (with_reducible first | exact HB.out | apply below_alloc | apply pw_below_drewN | apply below_drew1) | exact HB.out), by repeat (first | (with_reducible first | exact HK.out | apply Kept.alloc | apply Kept.drewN | apply Kept.drew) | exact HK.out)⟩
                    · rw [if_neg c15] at H
                      exact absurd H (by simp)
                  · rw [if_neg c12] at H
                    exact absurd H (by simp)
                · rw [if_neg c11] at H
                  exact absurd H (by simp)
              · rw [if_neg c10] at H
                exact absurd H (by simp)
        · rw [if_neg c4] at H
          exact absurd H (by simp)
      · rw [if_neg c3] at H
        have c3b0 : decide (x5_1 < (l0.length : Int)) = false := decide_eq_false c3
        clear c3
        obtain ⟨y319, hy319⟩ : ∃ y_ : List ByteArray, y_ = (([] : List ByteArray)) := ⟨_, rfl⟩
        replace H : (if 0 ≤ x5_1 then (if x5_1 ≤ (l0.length : Int) then ((some (l0.take (x5_1 : Int).toNat : List ByteArray)).bind fun y322 => (if y319.length + y322.length < 8796093022208 then ((some (y319 ++ y322 : List ByteArray)).bind fun y326 => (if y326.length < 8796093022208 then ((some (y326 ++ [a1] : List ByteArray)).bind fun y329 => ((some (l0.drop (x5_1 : Int).toNat : List ByteArray)).bind fun y332 => (if y329.length + y332.length < 8796093022208 then (some (y329 ++ y332)) else (none)))) else (none))) else (none))) else (none)) else (none)) = some r := by first | (rw [hy319]; with_reducible exact H) | (have H2_ := (Option.bind_some _ _).symm.trans H; rw [hy319]; with_reducible exact H2_) | (have H2_ := (Option.bind_some _ _).symm.trans H; with_reducible exact H2_) | with_reducible exact H | (rw [hy319]; exact H) | exact H
        have Ny319 := Aside0.mk hy319
        clear hy319
        by_cases c25 : 0 ≤ x5_1
        · rw [if_pos c25] at H
          have c25b0 := eq_true c25
          have c25b1 : decide (0 ≤ x5_1) = true := decide_eq_true c25
          clear c25
          by_cases c26 : x5_1 ≤ (l0.length : Int)
          · rw [if_pos c26] at H
            have c26b0 := eq_true c26
            have c26b1 : decide (x5_1 ≤ (l0.length : Int)) = true := decide_eq_true c26
            clear c26
            obtain ⟨y322, hy322⟩ : ∃ y_ : List ByteArray, y_ = (l0.take (x5_1 : Int).toNat) := ⟨_, rfl⟩
            replace H : (if y319.length + y322.length < 8796093022208 then ((some (y319 ++ y322 : List ByteArray)).bind fun y326 => (if y326.length < 8796093022208 then ((some (y326 ++ [a1] : List ByteArray)).bind fun y329 => ((some (l0.drop (x5_1 : Int).toNat : List ByteArray)).bind fun y332 => (if y329.length + y332.length < 8796093022208 then (some (y329 ++ y332)) else (none)))) else (none))) else (none)) = some r := by first | (rw [hy322]; with_reducible exact H) | (have H2_ := (Option.bind_some _ _).symm.trans H; rw [hy322]; with_reducible exact H2_) | (have H2_ := (Option.bind_some _ _).symm.trans H; with_reducible exact H2_) | with_reducible exact H | (rw [hy322]; exact H) | exact H
            have Ny322 := Aside0.mk hy322
            clear hy322
            by_cases c27 : y319.length + y322.length < 8796093022208
            · rw [if_pos c27] at H
              have LMc27 := Aside0.mk c27
              clear c27
              obtain ⟨y326, hy326⟩ : ∃ y_ : List ByteArray, y_ = (y319 ++ y322) := ⟨_, rfl⟩
              replace H : (if y326.length < 8796093022208 then ((some (y326 ++ [a1] : List ByteArray)).bind fun y329 => ((some (l0.drop (x5_1 : Int).toNat : List ByteArray)).bind fun y332 => (if y329.length + y332.length < 8796093022208 then (some (y329 ++ y332)) else (none)))) else (none)) = some r := by first | (rw [hy326]; with_reducible exact H) | (have H2_ := (Option.bind_some _ _).symm.trans H; rw [hy326]; with_reducible exact H2_) | (have H2_ := (Option.bind_some _ _).symm.trans H; with_reducible exact H2_) | with_reducible exact H | (rw [hy326]; exact H) | exact H
              have Ny326 := Aside0.mk hy326
              clear hy326
              by_cases c28 : y326.length < 8796093022208
              · rw [if_pos c28] at H
                have LMc28 := Aside0.mk c28
                clear c28
                obtain ⟨y329, hy329⟩ : ∃ y_ : List ByteArray, y_ = (y326 ++ [a1]) := ⟨_, rfl⟩
                replace H : ((some (l0.drop (x5_1 : Int).toNat : List ByteArray)).bind fun y332 => (if y329.length + y332.length < 8796093022208 then (some (y329 ++ y332)) else (none))) = some r := by first | (rw [hy329]; with_reducible exact H) | (have H2_ := (Option.bind_some _ _).symm.trans H; rw [hy329]; with_reducible exact H2_) | (have H2_ := (Option.bind_some _ _).symm.trans H; with_reducible exact H2_) | with_reducible exact H | (rw [hy329]; exact H) | exact H
                have Ny329 := Aside0.mk hy329
                clear hy329
                have c29b0 := eq_true (of_decide_eq_true (by first | (with_reducible assumption) | assumption) : 0 ≤ x5_1)
                have c30b0 := eq_true (of_decide_eq_true (by first | (with_reducible assumption) | assumption) : x5_1 ≤ (l0.length : Int))
                obtain ⟨y332, hy332⟩ : ∃ y_ : List ByteArray, y_ = (l0.drop (x5_1 : Int).toNat) := ⟨_, rfl⟩
                replace H : (if y329.length + y332.length < 8796093022208 then (some (y329 ++ y332)) else (none)) = some r := by first | (rw [hy332]; with_reducible exact H) | (have H2_ := (Option.bind_some _ _).symm.trans H; rw [hy332]; with_reducible exact H2_) | (have H2_ := (Option.bind_some _ _).symm.trans H; with_reducible exact H2_) | with_reducible exact H | (rw [hy332]; exact H) | exact H
                have Ny332 := Aside0.mk hy332
                clear hy332
                by_cases c31 : y329.length + y332.length < 8796093022208
                · rw [if_pos c31] at H
                  have LMc31 := Aside0.mk c31
                  clear c31
                  obtain ⟨y336, hy336⟩ : ∃ y_ : List ByteArray, y_ = (y329 ++ y332) := ⟨_, rfl⟩
                  replace H : (some y336) = some r := by first | (rw [hy336]; with_reducible exact H) | (have H2_ := (Option.bind_some _ _).symm.trans H; rw [hy336]; with_reducible exact H2_) | (have H2_ := (Option.bind_some _ _).symm.trans H; with_reducible exact H2_) | with_reducible exact H | (rw [hy336]; exact H) | exact H
                  have Ny336 := Aside0.mk hy336
                  clear hy336
                  obtain rfl := Option.some.inj H
                  obtain ⟨Ao32, co32, eo32⟩ := Kd.R_slice HO_0.out
                  subst eo32
                  try go_wp2_with (first | ((with_reducible refine gate_dst (N := 34) rfl ?_); refine Kd.R_lit Kd.string _ 9 ?hg (N := 34) ?hd (xs := ([] : List ByteArray)) (inner := []) (ok := fun _ => True) (okp := fun _ => True) ?hr ?hp (fun _ hk => hk) trivial (Below.refl _ _) (Nat.le_refl _) (by simp) ?_; (case hd => rfl); (case hg => rfl); (case hr => first | (go_simp; done) | (go_simp; rfl)); (case hp => exact (Reps.none _ _)); intro v320 w33 ho34 hb hg_ hnew_; clear hg_ hnew_; (first | rw [← Ny319.out] at ho34 | (simp only [Int.reduceToNat] at ho34; rw [← Ny319.out] at ho34)); have n0_ := Aside0.mk (Kd.R_elder' (by (with_reducible repeat (first | apply Kd.R_alloc | apply Kd.R_drewN | apply Kd.R_drew)); exact HO_0.out) (Kd.R_base ho34) hb); have n1_ := Aside0.mk (Kd.R_lower (Kd.R_new' (Kd.R_newM (M := fun k_ => (P0_ k_ ∨ w.heap.size ≤ k_)) ho34 (by first | exact HK.out.1 | exact (show Kept w _ (fun k_ => P0_ k_) from by repeat (first | (with_reducible first | exact HK.out | apply Kept.alloc | apply Kept.drewN | apply Kept.drew) | exact HK.out)).1) (fun k_ h_ => .inr h_)) (Kd.R_lt (by (with_reducible repeat (first | apply Kd.R_alloc | apply Kd.R_drewN | apply Kd.R_drew)); exact HO_0.out))) (below_size (by repeat (first | (with_reducible first | exact HB.out | apply below_alloc | apply pw_below_drewN | apply below_drew1) | exact HB.out)))); have n2_ := Aside0.mk (Kept.below (S := (fun k_ => P0_ k_)) (by repeat (first | (with_reducible first | exact HK.out | apply Kept.alloc | apply Kept.drewN | apply Kept.drew) | exact HK.out)) hb); have n3_ := Aside0.mk (below_step (by repeat (first | (with_reducible first | exact HB.out | apply below_alloc | apply pw_below_drewN | apply below_drew1) | exact HB.out)) hb); clear HO_0; clear HK; clear HB; have HO_0 := n0_; have HO321 := n1_; have HK := n2_; have HB := n3_; clear n0_ n1_ n2_ n3_; clear hb ho34; have q35 : (x5_1 : Int) ≤ ((l0.length : Int) : Int) := of_decide_eq_true (by first | (with_reducible assumption) | assumption); obtain ⟨i035, hi035, _, hsz35, _⟩ := info_parts info9; have hroom35 : l0.length ≤ co32 := (Kd.R_reads' HO_0.out).2.1; have hC35 : Kd.C Kd.string _ Ao32 l0.length l0 := (Kd.R_reads' HO_0.out).2.2; have hcut35 := cut_to (P := Try.prog) 25 9 .i64 Try.underlying25 hi035 Ao32 l0.length co32 x5_1 (of_decide_eq_true (by first | (with_reducible assumption) | assumption)) q35 hroom35; have hr35 := Kd.C_take (m := (x5_1 : Int).toNat) hC35 (by omega); have hy35 : y322.length = (x5_1 : Int).toNat := (by rw [Ny322.out, List.length_take]; omega); rw [← Ny322.out] at hr35; rw [← hy35] at hcut35; have HR325 := Aside0.mk hr35; have HC325 := Aside0.mk (show y322.length ≤ co32 from by omega); clear hr35 hC35 hroom35 hi035 hsz35; have KY35 := Aside0.mk hy35; clear hy35; have KL35 := Aside0.mk (show (x5_1 : Int).toNat ≤ l0.length from by omega); replace q35 := eq_true q35) | ((with_reducible refine gate_builtin (b := .append) (xs := #[.tmp 34, .tmp 37]) rfl ?_); at_builtin; refine Kd.R_append_rows Kd.string (w0 := w0) w0.heap.size rfl (.tmp 34) (.tmp 37) 25 9 (.string ⟨#[]⟩) 16 rfl Try.underlying25 info9 rfl (by decide) (by omega) v320 y319 y322 _ _ _ (fun k_ => (P0_ k_ ∨ w.heap.size ≤ k_) ∧ some k_ ≠ (.slice Ao32 l0.length co32 : Value).ownBlock) (fun _ => False) rfl rfl ?aO ?aR (fun _ _ h => h) (fun _ h => h.elim) ?aF ?aB ?aS ?aL ?_; (case aR => repeat (first | exact (by repeat (first | (with_reducible exact HR325.out) | (with_reducible refine Kd.C_alloc ?_ _) | (with_reducible refine Kd.C_drewN ?_ _) | (with_reducible refine Kd.C_drew ?_) | exact HR325.out)) | (with_reducible refine Kd.C_alloc ?_ _) | (with_reducible refine Kd.C_drewN ?_ _) | (with_reducible refine Kd.C_drew ?_))); (case aB => exact (by repeat (first | (with_reducible first | exact HB.out | apply below_alloc | apply pw_below_drewN | apply below_drew1) | exact HB.out))); (case aF => exact (fun k_ hk => ⟨(.inr (Nat.le_trans (by first | exact HK.out.1 | exact (show Kept w _ (fun k_ => P0_ k_) from by repeat (first | (with_reducible first | exact HK.out | apply Kept.alloc | apply Kept.drewN | apply Kept.drew) | exact HK.out)).1) hk)), Kd.fresh' (Kd.R_lt (by (with_reducible repeat (first | apply Kd.R_alloc | apply Kd.R_drewN | apply Kd.R_drew)); exact HO_0.out)) k_ hk⟩)); (case aO => exact (by (with_reducible repeat (first | apply Kd.R_alloc | apply Kd.R_drewN | apply Kd.R_drew)); exact Kd.R_mono HO321.out (fun _ hk => ⟨hk.1.1, hk.2⟩))); (case aS => exact (below_size (by repeat (first | (with_reducible first | exact HB.out | apply below_alloc | apply pw_below_drewN | apply below_drew1) | exact HB.out)))); (case aL => have := LMc27.out; omega); intro v327 w36 ho hb hg hat; rw [← Ny326.out] at ho; have n0_ := Aside0.mk (Kd.R_after (ok := (fun k_ => (P0_ k_ ∨ w.heap.size ≤ k_))) (by (with_reducible repeat (first | apply Kd.R_alloc | apply Kd.R_drewN | apply Kd.R_drew)); exact HO_0.out) hg hat); have n1_ := Aside0.mk (hb); have n2_ := Aside0.mk (Kept.of_grown (S := (fun k_ => P0_ k_)) hg (by repeat (first | (with_reducible first | exact HK.out | apply Kept.alloc | apply Kept.drewN | apply Kept.drew) | exact HK.out)) (fun k_ e_ => (HO321.out.1 k_ e_).1.1)); have n3_ := Aside0.mk ((show Kd.C Kd.string w36 Ao32 y322.length y322 from by rw [Ny322.out]; exact Kd.C_take (m := (x5_1 : Int).toNat) ((Kd.R_reads' (Kd.R_after (ok := (fun k_ => (P0_ k_ ∨ w.heap.size ≤ k_))) (by (with_reducible repeat (first | apply Kd.R_alloc | apply Kd.R_drewN | apply Kd.R_drew)); exact HO_0.out) hg hat)).2.2) KL35.out)); have n4_ := Aside0.mk (ho); clear HO_0; clear HB; clear HK; clear HR325; clear HO321; have HO_0 := n0_; have HB := n1_; have HK := n2_; have HR325 := n3_; have HO328 := n4_; clear n0_ n1_ n2_ n3_ n4_; clear ho hb hg hat))
                  have n0_ := Aside0.mk (Kd.R_drew HO_0.out)
                  have n1_ := Aside0.mk (Kd.R_drew HO328.out)
                  have n2_ := Aside0.mk (Kd.C_drew HR325.out)
                  have n3_ := Aside0.mk (Kept.drew HK.out)
                  have n4_ := Aside0.mk (below_drew1 HB.out)
                  clear HO_0
                  clear HO328
                  clear HR325
                  clear HK
                  clear HB
                  have HO_0 := n0_
                  have HO328 := n1_
                  have HR325 := n2_
                  have HK := n3_
                  have HB := n4_
                  clear n0_ n1_ n2_ n3_ n4_
                  have q38 : (x5_1 : Int) ≤ ((l0.length : Int) : Int) := of_decide_eq_true (by first | (with_reducible assumption) | assumption)
                  obtain ⟨i038, hi038, _, hsz38, _⟩ := info_parts info9
                  have hroom38 : l0.length ≤ co32 := (Kd.R_reads' HO_0.out).2.1
                  have hC38 : Kd.C Kd.string _ Ao32 l0.length l0 := (Kd.R_reads' HO_0.out).2.2
                  have q038 : (0 : Int) ≤ (x5_1 : Int) := of_decide_eq_true (by first | (with_reducible assumption) | assumption)
                  have hcut38 := cut_from (P := Try.prog) 25 9 .i64 Try.underlying25 hi038 1 hsz38 Ao32 l0.length co32 x5_1 q038 q38
                  have hr38 := Kd.C_drop (m := (x5_1 : Int).toNat) (c := co32) hC38 (by omega) hroom38
                  obtain ⟨A38, hA38⟩ : ∃ A1, A1 = (if co32 = (x5_1 : Int).toNat then Ao32 else (Ao32 : Option Addr).map (·.add ((x5_1 : Int).toNat * 1))) := ⟨_, rfl⟩
                  obtain ⟨c38, hc38⟩ : ∃ c1, c1 = co32 - (x5_1 : Int).toNat := ⟨_, rfl⟩
                  have hy38 : y332.length = l0.length - (x5_1 : Int).toNat := (by rw [Ny332.out, List.length_drop] <;> omega)
                  rw [show (l0).drop (x5_1 : Int).toNat = y332 from Ny332.out.symm] at hr38
                  replace hr38 : Kd.C Kd.string _ A38 y332.length y332 := (by rw [hA38]; exact hr38)
                  rw [← hy38, ← hA38, ← hc38] at hcut38
                  have HR335 := Aside0.mk hr38
                  have HC335 := Aside0.mk (show y332.length ≤ c38 from by rw [hy38, hc38]; exact Nat.sub_le_sub_right hroom38 _)
                  clear hr38 hC38 hroom38 hi038 hsz38 hc38
                  have KY38 := Aside0.mk hy38
                  have KA38 := Aside0.mk hA38
                  clear hy38 hA38
                  have KL38 := Aside0.mk (show (x5_1 : Int).toNat ≤ l0.length from by omega)
                  replace q38 := eq_true q38
                  refine start_ (n := 9) (S := fun w' => True) (ds := []) #[false, false, false, false, false, false, false, false, false] (by kernel_rfl) rfl rfl trivial (fun hHeld => ?_); refine with_tabW spec_l3Add.tab7 spec_l3Add.bits7 (fun HT_ HW_ => ?_)
                  generalize w36.drew = w37 at HO_0 HO328 HR325 HK HB HR335 hHeld ⊢
                  refine pure_ (i := 0) (N := some 39) (v := ?_) (a' := ?_) #[true, false, false, false, false, false, false, false, false] rfl rfl (any_of HT_.out (by kernel_rfl)) (fun _ _ _ h => h) (Or.inl ⟨by rfl, ?_⟩) ?_ ?_
                  rotate_left
                  · intro w'
                    go_simp
                    with_reducible rfl
                  rotate_left
                  · simp only [Act.put, List.setIfInBounds_toArray, List.set_cons_zero, List.set_cons_succ, i64_w, i32_w]
                    rfl
                  refine pure_ (i := 1) (N := some 40) (v := ?_) (a' := ?_) #[true, true, false, false, false, false, false, false, false] rfl rfl (any_of HT_.out (by kernel_rfl)) (fun _ _ _ h => h) (Or.inl ⟨by rfl, ?_⟩) ?_ ?_
                  rotate_left
                  · intro w'
                    go_simp
                    with_reducible rfl
                  rotate_left
                  · simp only [Act.put, List.setIfInBounds_toArray, List.set_cons_zero, List.set_cons_succ, i64_w, i32_w]
                    rfl
                  refine pure_ (i := 4) (N := some 43) (v := ?_) (a' := ?_) #[true, true, false, false, true, false, false, false, false] rfl rfl (any_of HT_.out (by kernel_rfl)) (fun _ _ _ h => h) (Or.inl ⟨by rfl, ?_⟩) ?_ ?_
                  rotate_left
                  · intro w'
                    go_simp
                    with_reducible rfl
                  rotate_left
                  · simp only [Act.put, List.setIfInBounds_toArray, List.set_cons_zero, List.set_cons_succ, i64_w, i32_w]
                    rfl
                  refine pure_ (i := 5) (N := some 44) (v := ?_) (a' := ?_) #[true, true, false, false, true, true, false, false, false] rfl rfl (any_of HT_.out (by kernel_rfl)) (fun _ _ _ h => h) (Or.inl ⟨by rfl, ?_⟩) ?_ ?_
                  rotate_left
                  · intro w'
                    go_simp
                    with_reducible rfl
                  rotate_left
                  · simp only [Act.put, List.setIfInBounds_toArray, List.set_cons_zero, List.set_cons_succ, i64_w, i32_w]
                    rfl
                  refine pure_ (i := 6) (N := some 45) (v := ?_) (a' := ?_) #[true, true, false, false, true, true, true, false, false] rfl rfl (any_of HT_.out (by kernel_rfl)) (fun _ _ _ h => h) (Or.inl ⟨by rfl, ?_⟩) ?_ ?_
                  rotate_left
                  · intro w'
                    go_simp
                    with_reducible rfl
                  rotate_left
                  · simp only [Act.put, List.setIfInBounds_toArray, List.set_cons_zero, List.set_cons_succ, i64_w, i32_w]
                    rfl
                  refine one_ (i := 2) (N := some 41) #[true, true, true, false, true, true, true, false, false] rfl rfl (one_of HT_.out (by kernel_rfl)) (by decide) (fun K hK => ?_)
                  refine value_ (w1 := ?_) (v := ?_) (by rfl) rfl ?_ ?_
                  rotate_left 2
                  · go_simp
                    constructor
                    · rfl
                    · rfl
                  refine hK.out _ _ trivial (fun hHeld => ?_)
                  clear hK K
                  refine norm_ (a' := ?_) ?_ ?_
                  rotate_left
                  · show Act.put _ (some 41) _ = _
                    simp only [Act.put, List.setIfInBounds_toArray, List.set_cons_zero, List.set_cons_succ, i64_w, i32_w]
                    rfl
                  refine one_ (i := 3) (N := some 42) #[true, true, true, true, true, true, true, false, false] rfl rfl (one_of HT_.out (by kernel_rfl)) (by decide) (fun K hK => ?_)
                  refine Kd.R_append_step Kd.string (w0 := w0) w0.heap.size (by rfl) (.tmp 39) (.tmp 41) 25 9 (.string ⟨#[]⟩) 16 rfl Try.underlying25 info9 rfl (by decide) (by omega) v327 y326 a1 [.string a1] (fun k_ => (P0_ k_ ∨ w.heap.size ≤ k_) ∧ some k_ ≠ (.slice Ao32 l0.length co32 : Value).ownBlock) (fun _ => False) rfl rfl ?aP (fun _ hk => hk.elim) ?aF ?aO ?aB ?aS ?aL ?_
                  (case aP => exact rfl)
                  (case aB => exact (by repeat (first | (with_reducible first | exact HB.out | apply below_alloc | apply pw_below_drewN | apply below_drew1) | exact HB.out)))
                  (case aF => exact (fun k_ hk => ⟨(.inr (Nat.le_trans (by first | exact HK.out.1 | exact (show Kept w _ (fun k_ => P0_ k_) from by repeat (first | (with_reducible first | exact HK.out | apply Kept.alloc | apply Kept.drewN | apply Kept.drew) | exact HK.out)).1) hk)), Kd.fresh' (Kd.R_lt (by (with_reducible repeat (first | apply Kd.R_alloc | apply Kd.R_drewN | apply Kd.R_drew)); exact HO_0.out)) k_ hk⟩))
                  (case aO => exact (by (with_reducible repeat (first | apply Kd.R_alloc | apply Kd.R_drewN | apply Kd.R_drew)); exact HO328.out))
                  (case aS => exact (below_size (by repeat (first | (with_reducible first | exact HB.out | apply below_alloc | apply pw_below_drewN | apply below_drew1) | exact HB.out))))
                  (case aL => have := LMc28.out; omega)
                  intro v330 w39 ho hb hg hat
                  rw [← Ny329.out] at ho
                  have n0_ := Aside0.mk (Kd.R_after (ok := (fun k_ => (P0_ k_ ∨ w.heap.size ≤ k_))) (by (with_reducible repeat (first | apply Kd.R_alloc | apply Kd.R_drewN | apply Kd.R_drew)); exact HO_0.out) hg hat)
                  have n1_ := Aside0.mk (hb)
                  have n2_ := Aside0.mk (Kept.of_grown (S := (fun k_ => P0_ k_)) hg (by repeat (first | (with_reducible first | exact HK.out | apply Kept.alloc | apply Kept.drewN | apply Kept.drew) | exact HK.out)) (fun k_ e_ => (HO328.out.1 k_ e_).1))
                  have n3_ := Aside0.mk ((show Kd.C Kd.string w39 Ao32 y322.length y322 from by rw [Ny322.out]; exact Kd.C_take (m := (x5_1 : Int).toNat) ((Kd.R_reads' (Kd.R_after (ok := (fun k_ => (P0_ k_ ∨ w.heap.size ≤ k_))) (by (with_reducible repeat (first | apply Kd.R_alloc | apply Kd.R_drewN | apply Kd.R_drew)); exact HO_0.out) hg hat)).2.2) KL35.out))
                  have n4_ := Aside0.mk ((show Kd.C Kd.string w39 A38 y332.length y332 from by rw [Ny332.out, KA38.out]; exact Kd.C_drop (m := (x5_1 : Int).toNat) (c := co32) ((Kd.R_reads' (Kd.R_after (ok := (fun k_ => (P0_ k_ ∨ w.heap.size ≤ k_))) (by (with_reducible repeat (first | apply Kd.R_alloc | apply Kd.R_drewN | apply Kd.R_drew)); exact HO_0.out) hg hat)).2.2) KL38.out ((Kd.R_reads' (Kd.R_after (ok := (fun k_ => (P0_ k_ ∨ w.heap.size ≤ k_))) (by (with_reducible repeat (first | apply Kd.R_alloc | apply Kd.R_drewN | apply Kd.R_drew)); exact HO_0.out) hg hat)).2.1)))
                  have n5_ := Aside0.mk (ho)
                  clear HO_0
                  clear HB
                  clear HK
                  clear HR325
                  clear HR335
                  clear HO328
                  have HO_0 := n0_
                  have HB := n1_
                  have HK := n2_
                  have HR325 := n3_
                  have HR335 := n4_
                  have HO331 := n5_
                  clear n0_ n1_ n2_ n3_ n4_ n5_
                  clear ho hb hg hat
                  refine hK.out _ _ trivial (fun hHeld => ?_)
                  clear hK K
                  refine norm_ (a' := ?_) ?_ ?_
                  rotate_left
                  · show Act.put _ (some 42) _ = _
                    simp only [Act.put, List.setIfInBounds_toArray, List.set_cons_zero, List.set_cons_succ, i64_w, i32_w]
                    rfl
                  refine one_ (i := 7) (N := some 46) #[true, true, true, true, true, true, true, true, false] rfl rfl (one_of HT_.out (by kernel_rfl)) (by decide) (fun K hK => ?_)
                  refine Kd.R_append_rows_step Kd.string (w0 := w0) w0.heap.size (by rfl) (.tmp 42) (.tmp 45) 25 9 (.string ⟨#[]⟩) 16 rfl Try.underlying25 info9 rfl (by decide) (by omega) v330 y329 y332 _ _ _ (fun k_ => (P0_ k_ ∨ w.heap.size ≤ k_) ∧ some k_ ≠ (.slice Ao32 l0.length co32 : Value).ownBlock) (fun _ => False) rfl rfl ?aO ?aR (fun _ _ h => h) (fun _ h => h.elim) ?aF ?aB ?aS ?aL ?_
                  (case aR => repeat (first | exact (by repeat (first | (with_reducible exact HR335.out) | (with_reducible refine Kd.C_alloc ?_ _) | (with_reducible refine Kd.C_drewN ?_ _) | (with_reducible refine Kd.C_drew ?_) | exact HR335.out)) | (with_reducible refine Kd.C_alloc ?_ _) | (with_reducible refine Kd.C_drewN ?_ _) | (with_reducible refine Kd.C_drew ?_)))
                  (case aB => exact (by repeat (first | (with_reducible first | exact HB.out | apply below_alloc | apply pw_below_drewN | apply below_drew1) | exact HB.out)))
                  (case aF => exact (fun k_ hk => ⟨(.inr (Nat.le_trans (by first | exact HK.out.1 | exact (show Kept w _ (fun k_ => P0_ k_) from by repeat (first | (with_reducible first | exact HK.out | apply Kept.alloc | apply Kept.drewN | apply Kept.drew) | exact HK.out)).1) hk)), Kd.fresh' (Kd.R_lt (by (with_reducible repeat (first | apply Kd.R_alloc | apply Kd.R_drewN | apply Kd.R_drew)); exact HO_0.out)) k_ hk⟩))
                  (case aO => exact (by (with_reducible repeat (first | apply Kd.R_alloc | apply Kd.R_drewN | apply Kd.R_drew)); exact HO331.out))
                  (case aS => exact (below_size (by repeat (first | (with_reducible first | exact HB.out | apply below_alloc | apply pw_below_drewN | apply below_drew1) | exact HB.out))))
                  (case aL => have := LMc31.out; omega)
                  intro v337 w40 ho hb hg hat
                  rw [← Ny336.out] at ho
                  have n0_ := Aside0.mk (Kd.R_after (ok := (fun k_ => (P0_ k_ ∨ w.heap.size ≤ k_))) (by (with_reducible repeat (first | apply Kd.R_alloc | apply Kd.R_drewN | apply Kd.R_drew)); exact HO_0.out) hg hat)
                  have n1_ := Aside0.mk (hb)
                  have n2_ := Aside0.mk (Kept.of_grown (S := (fun k_ => P0_ k_)) hg (by repeat (first | (with_reducible first | exact HK.out | apply Kept.alloc | apply Kept.drewN | apply Kept.drew) | exact HK.out)) (fun k_ e_ => (HO331.out.1 k_ e_).1))
                  have n3_ := Aside0.mk ((show Kd.C Kd.string w40 Ao32 y322.length y322 from by rw [Ny322.out]; exact Kd.C_take (m := (x5_1 : Int).toNat) ((Kd.R_reads' (Kd.R_after (ok := (fun k_ => (P0_ k_ ∨ w.heap.size ≤ k_))) (by (with_reducible repeat (first | apply Kd.R_alloc | apply Kd.R_drewN | apply Kd.R_drew)); exact HO_0.out) hg hat)).2.2) KL35.out))
                  have n4_ := Aside0.mk ((show Kd.C Kd.string w40 A38 y332.length y332 from by rw [Ny332.out, KA38.out]; exact Kd.C_drop (m := (x5_1 : Int).toNat) (c := co32) ((Kd.R_reads' (Kd.R_after (ok := (fun k_ => (P0_ k_ ∨ w.heap.size ≤ k_))) (by (with_reducible repeat (first | apply Kd.R_alloc | apply Kd.R_drewN | apply Kd.R_drew)); exact HO_0.out) hg hat)).2.2) KL38.out ((Kd.R_reads' (Kd.R_after (ok := (fun k_ => (P0_ k_ ∨ w.heap.size ≤ k_))) (by (with_reducible repeat (first | apply Kd.R_alloc | apply Kd.R_drewN | apply Kd.R_drew)); exact HO_0.out) hg hat)).2.1)))
                  have n5_ := Aside0.mk (ho)
                  clear HO_0
                  clear HB
                  clear HK
                  clear HR325
                  clear HR335
                  clear HO331
                  have HO_0 := n0_
                  have HB := n1_
                  have HK := n2_
                  have HR325 := n3_
                  have HR335 := n4_
                  have HO338 := n5_
                  clear n0_ n1_ n2_ n3_ n4_ n5_
                  clear ho hb hg hat
                  refine hK.out _ _ trivial (fun hHeld => ?_)
                  clear hK K
                  refine norm_ (a' := ?_) ?_ ?_
                  rotate_left
                  · show Act.put _ (some 46) _ = _
                    simp only [Act.put, List.setIfInBounds_toArray, List.set_cons_zero, List.set_cons_succ, i64_w, i32_w]
                    rfl
                  refine pure_ (i := 8) (N := some 4) (v := ?_) (a' := ?_) #[true, true, true, true, true, true, true, true, true] rfl rfl (any_of HT_.out (by kernel_rfl)) (fun _ _ _ h => h) (Or.inl ⟨by rfl, ?_⟩) ?_ ?_
                  rotate_left
                  · intro w'
                    go_simp
                    with_reducible rfl
                  rotate_left
                  · simp only [Act.put, List.setIfInBounds_toArray, List.set_cons_zero, List.set_cons_succ, i64_w, i32_w]
                    rfl
                  refine done_ (done_of HT_.out (by kernel_rfl)) ?_
                  try go_wp2
                  go_ret
                  exact ⟨_, by first | rfl | (simp [errW_none, errW_some] <;> rfl) | (simp [*, errW_none, errW_some] <;> rfl), by (with_reducible repeat (first | apply Kd.R_alloc | apply Kd.R_drewN | apply Kd.R_drew)); exact Kd.R_mono HO338.out (fun _ hk => hk.1), by repeat (first | (with_reducible first | exact HB.out | apply below_alloc | apply pw_below_drewN | apply below_drew1) | exact HB.out), by repeat (first | (with_reducible first | exact HK.out | apply Kept.alloc | apply Kept.drewN | apply Kept.drew) | exact HK.out)⟩
                · rw [if_neg c31] at H
                  exact absurd H (by simp)
              · rw [if_neg c28] at H
                exact absurd H (by simp)
            · rw [if_neg c27] at H
              exact absurd H (by simp)
          · rw [if_neg c26] at H
            exact absurd H (by simp)
        · rw [if_neg c25] at H
          exact absurd H (by simp)
end Go.Proofs.Ytnjmhlhlmokjnaa.G
namespace Go.Proofs.Ytnjmhlhlmokjnaa.G
open Go.RowKit Go.Proofs.YtnjmhlhlmokjnaaW.PrintWords Go.Proofs.YtnjmhlhlmokjnaaW.PrintLast Go.Proofs.YtnjmhlhlmokjnaaW.PrintMore
attribute [local go_sem] max2_int min2_int max_two min_two max_three min_three max_four min_four
set_option linter.unusedVariables false
set_option linter.unusedSimpArgs false
mutual
def spec_Failing.j0 : Nat → List (S32) → List ByteArray → List ByteArray → Bool → Option (List ByteArray)
  | 0, _, _, _, _ => none
  | k + 1, x0, x1, x5, x19 => if x19 = true then (some x5) else (spec_Failing.l0 k x0 x1 x5 0)
def spec_Failing.l0 : Nat → List (S32) → List ByteArray → List ByteArray → Int → Option (List ByteArray)
  | 0, _, _, _, _ => none
  | k + 1, x0, x1, x5, x6 => if x6 ≤ (x0.length : Int) then (spec_Failing.l1 k x0 x1 x5 x6 0) else (some x5)
def spec_Failing.l1 : Nat → List (S32) → List ByteArray → List ByteArray → Int → Int → Option (List ByteArray)
  | 0, _, _, _, _, _ => none
  | k + 1, x0, x1, x5, x6, x7 => if x7 < (x0.length : Int) then (if 0 ≤ x7 then ((spec_l3Has.f k x1 ((rd_T32 x0 x7).f0)).bind fun t345 => (spec_Failing.l2 k x0 x1 x5 x6 x7 t345 0 ((rd_T32 x0 x7).f0) ((rd_T32 x0 x7).f1) ((rd_T32 x0 x7).f2) ((rd_T32 x0 x7).f3) ((rd_T32 x0 x7).f4))) else (none)) else (spec_Failing.l0 k x0 x1 x5 (wrap64 (x6 + 1)))
def spec_Failing.l2 : Nat → List (S32) → List ByteArray → List ByteArray → Int → Int → Bool → Int → ByteArray → List ByteArray → List ByteArray → ByteArray → Bool → Option (List ByteArray)
  | 0, _, _, _, _, _, _, _, _, _, _, _, _ => none
  | k + 1, x0, x1, x5, x6, x7, x9, x10, x345000, x345001, x345002, x345003, x345004 => if x10 < (x345002.length : Int) then (if x9 = true then (spec_Failing.l2 k x0 x1 x5 x6 x7 true (wrap64 (x10 + 1)) x345000 x345001 x345002 x345003 x345004) else (if 0 ≤ x10 then ((spec_l3Has.f k x5 (rdOf ByteArray.empty x345002 x10)).bind fun t347 => (if t347 = true then (spec_Failing.l2 k x0 x1 x5 x6 x7 true (wrap64 (x10 + 1)) x345000 x345001 x345002 x345003 x345004) else ((spec_l18Find.f k x0 (rdOf ByteArray.empty x345002 x10)).bind fun t349 => (spec_Failing.l2 k x0 x1 x5 x6 x7 (decide (t349 < 0)) (wrap64 (x10 + 1)) x345000 x345001 x345002 x345003 x345004)))) else (none))) else (if x9 = true then ((spec_l3Add.f k x5 x345000).bind fun t350 => (spec_Failing.l1 k x0 x1 t350 x6 (wrap64 (x7 + 1)))) else (spec_Failing.l1 k x0 x1 x5 x6 (wrap64 (x7 + 1))))
end
def spec_Failing.f (k : Nat) (l0 : List (S32)) (l1 : List ByteArray) : Option (List ByteArray) := (some (([] : List ByteArray) : List ByteArray)).bind fun y339 => ((spec_UnitsOk.f l0).bind fun t342 => (if t342 = true then (spec_Failing.j0 k l0 l1 y339 (decide ((l1.length : Int) > 2000))) else (spec_Failing.j0 k l0 l1 y339 true)))
set_option maxHeartbeats 8000000 in
set_option maxRecDepth 100000 in
theorem spec_Failing.calls (k : Nat) (A0 : Option Addr) (c0 : Nat) (l0 : List (S32)) (A1 : Option Addr) (c1 : Nat) (l1 : List ByteArray) (r : List ByteArray) (w : World) (hr0 : Kd.C k32 w A0 l0.length l0) (hc0 : l0.length ≤ c0) (hr1 : Kd.C Kd.string w A1 l1.length l1) (hc1 : l1.length ≤ c1) (h : spec_Failing.f k l0 l1 = some r) :
    Calls Try.prog 15 #[.slice A0 l0.length c0, .slice A1 l1.length c1] w fun e w' => ∃ v0_ : Value, e = .returned (v0_) ∧ Kd.R Kd.string 9 w' w.heap.size (fun _ => True) v0_ r ∧ Below w.heap.size w w' := by
  have hu32 := Try.underlying32
  have HR0 := Aside0.mk hr0
  have HC0 := Aside0.mk hc0
  clear hr0 hc0
  have HR1 := Aside0.mk hr1
  have HC1 := Aside0.mk hc1
  clear hr1 hc1
  have HB := Aside0.mk (Below.refl w.heap.size w)
  have H : ((some (([] : List ByteArray) : List ByteArray)).bind fun y339 => ((spec_UnitsOk.f l0).bind fun t342 => (if t342 = true then (spec_Failing.j0 k l0 l1 y339 (decide ((l1.length : Int) > 2000))) else (spec_Failing.j0 k l0 l1 y339 true)))) = some r := h
  clear h
  obtain ⟨y339, hy339⟩ : ∃ y_ : List ByteArray, y_ = (([] : List ByteArray)) := ⟨_, rfl⟩
  replace H : ((spec_UnitsOk.f l0).bind fun t342 => (if t342 = true then (spec_Failing.j0 k l0 l1 y339 (decide ((l1.length : Int) > 2000))) else (spec_Failing.j0 k l0 l1 y339 true))) = some r := by first | (rw [hy339]; with_reducible exact H) | (have H2_ := (Option.bind_some _ _).symm.trans H; rw [hy339]; with_reducible exact H2_) | (have H2_ := (Option.bind_some _ _).symm.trans H; with_reducible exact H2_) | with_reducible exact H | (rw [hy339]; exact H) | exact H
  have Ny339 := Aside0.mk hy339
  clear hy339
  have HC3 := Aside0.mk H
  clear H
  go_enter Try.func15, Try.ntmps15
  go_upto_region 2 with (first | ((with_reducible refine gate_dst (N := 11) rfl ?_); (try (refine gate_guard (by rfl) ?_; dsimp only)); refine Kd.R_lit Kd.string _ 9 ?hg (N := 11) ?hd (xs := ([] : List ByteArray)) (inner := []) (ok := fun _ => True) (okp := fun _ => True) ?hr ?hp (fun _ hk => hk) trivial (Below.refl _ _) (Nat.le_refl _) (by simp) ?_; (case hd => rfl); (case hg => rfl); (case hr => first | (go_simp; done) | (go_simp; rfl)); (case hp => exact (Reps.none _ _)); intro v340 w4 ho5 hb hg_ hnew_; clear hg_ hnew_; (first | rw [← Ny339.out] at ho5 | (simp only [Int.reduceToNat] at ho5; rw [← Ny339.out] at ho5)); have n0_ := Aside0.mk (Kd.R_lower ho5 (below_size (by repeat (first | (with_reducible first | exact HB.out | apply below_alloc | apply pw_below_drewN | apply below_drew1) | exact HB.out)))); have n1_ := Aside0.mk (below_step (by repeat (first | (with_reducible first | exact HB.out | apply below_alloc | apply pw_below_drewN | apply below_drew1) | exact HB.out)) hb); clear HB; have HO341 := n0_; have HB := n1_; clear n0_ n1_; clear hb ho5))
  (try simp only [Act.put, List.setIfInBounds_toArray, List.set_cons_zero, List.set_cons_succ])
  go_cut [19] (fun v19 wc => ∃ (kq : Nat) (x19_2 : Bool), v19 = .bool x19_2 ∧ Aside0 (spec_Failing.j0 kq l0 l1 y339 x19_2 = some r) ∧ Aside0 (kq ≤ k) ∧ Aside0 (Kd.R Kd.string 9 wc w.heap.size (fun _ => True) v340 y339) ∧ Aside0 (Below w.heap.size w wc))
  case first =>
    have H := HC3.out
    clear HC3
    replace H := Option.bind_eq_some_iff.mp H
    obtain ⟨t342, A60, H⟩ := H
    replace H : (if t342 = true then (spec_Failing.j0 k l0 l1 y339 (decide ((l1.length : Int) > 2000))) else (spec_Failing.j0 k l0 l1 y339 true)) = some r := H
    have A6 := Aside0.mk A60
    clear A60
    by_cases c7 : t342 = true
    · subst c7
      have H1 : (spec_Failing.j0 k l0 l1 y339 (decide ((l1.length : Int) > 2000))) = some r := by rw [if_pos rfl] at H; exact H
      clear H
      have H := H1
      clear H1
      have H' := Aside0.mk H
      clear H
      go_wp2_with (first | ((with_reducible refine gate_callee (f := 13) rfl ?_); refine goesL_ (some 13) rfl rfl Try.func13 (by kernel_rfl) rfl #[.slice A0 l0.length c0] rfl (by (try simp only [List.map_toArray, List.map_cons, List.map_nil]); first | done | rfl | (simp only [List.length_drop, List.length_take]; rfl)) ?_; (with_reducible refine (spec_UnitsOk.calls _ _ l0 true _ ?side1 ?side2 A6.out).mono ?_); (case side1 => repeat (first | exact (Kd.C_below HR0.out HB.out) | (with_reducible refine Kd.C_alloc ?_ _) | (with_reducible refine Kd.C_drewN ?_ _) | (with_reducible refine Kd.C_drew ?_))); (case side2 => exact HC0.out); rintro e w8 ⟨rfl, hb⟩; refine ⟨_, rfl, ?_⟩; have n0_ := Aside0.mk (Kd.R_below (by (with_reducible repeat (first | apply Kd.R_alloc | apply Kd.R_drewN | apply Kd.R_drew)); exact HO341.out) hb); have n1_ := Aside0.mk (below_step (by repeat (first | (with_reducible first | exact HB.out | apply below_alloc | apply pw_below_drewN | apply below_drew1) | exact HB.out)) hb); clear HO341; clear HB; have HO341 := n0_; have HB := n1_; clear n0_ n1_; (try clear hb); (try clear hb2); (try clear hk); (try clear hi)))
      go_meet
      case rel => exact ⟨_, (decide ((l1.length : Int) > 2000)), (by first | rfl | (simp; done) | (simp [*]; done)), H', ⟨by first | omega | exact Nat.le_refl _⟩, ⟨by (with_reducible repeat (first | apply Kd.R_alloc | apply Kd.R_drewN | apply Kd.R_drew)); exact HO341.out⟩, ⟨by repeat (first | (with_reducible first | exact HB.out | apply below_alloc | apply pw_below_drewN | apply below_drew1) | exact HB.out)⟩⟩
    · replace c7 := Bool.eq_false_iff.mpr c7
      subst c7
      have H1 : (spec_Failing.j0 k l0 l1 y339 true) = some r := by rw [if_neg (show ¬ (false = true) by decide)] at H; exact H
      clear H
      have H := H1
      clear H1
      have H' := Aside0.mk H
      clear H
      go_wp2_with (first | ((with_reducible refine gate_callee (f := 13) rfl ?_); refine goesL_ (some 13) rfl rfl Try.func13 (by kernel_rfl) rfl #[.slice A0 l0.length c0] rfl (by (try simp only [List.map_toArray, List.map_cons, List.map_nil]); first | done | rfl | (simp only [List.length_drop, List.length_take]; rfl)) ?_; (with_reducible refine (spec_UnitsOk.calls _ _ l0 false _ ?side1 ?side2 A6.out).mono ?_); (case side1 => repeat (first | exact (Kd.C_below HR0.out HB.out) | (with_reducible refine Kd.C_alloc ?_ _) | (with_reducible refine Kd.C_drewN ?_ _) | (with_reducible refine Kd.C_drew ?_))); (case side2 => exact HC0.out); rintro e w9 ⟨rfl, hb⟩; refine ⟨_, rfl, ?_⟩; have n0_ := Aside0.mk (Kd.R_below (by (with_reducible repeat (first | apply Kd.R_alloc | apply Kd.R_drewN | apply Kd.R_drew)); exact HO341.out) hb); have n1_ := Aside0.mk (below_step (by repeat (first | (with_reducible first | exact HB.out | apply below_alloc | apply pw_below_drewN | apply below_drew1) | exact HB.out)) hb); clear HO341; clear HB; have HO341 := n0_; have HB := n1_; clear n0_ n1_; (try clear hb); (try clear hb2); (try clear hk); (try clear hi)))
      go_meet
      case rel => exact ⟨_, (true), (by first | rfl | (simp; done) | (simp [*]; done)), H', ⟨by first | omega | exact Nat.le_refl _⟩, ⟨by (with_reducible repeat (first | apply Kd.R_alloc | apply Kd.R_drewN | apply Kd.R_drew)); exact HO341.out⟩, ⟨by repeat (first | (with_reducible first | exact HB.out | apply below_alloc | apply pw_below_drewN | apply below_drew1) | exact HB.out)⟩⟩
  case rest =>
    clear HC3
    try clear c1
    try clear p2
    try clear c7
    obtain ⟨kq, x19_2, rfl, HA, HJ2, HO_5, HB⟩ := hcut
    cases kq with
    | zero => exact absurd HA.out (by simp [spec_Failing.j0])
    | succ kj2 =>
      have H := HA.out
      clear HA
      simp only [spec_Failing.j0] at H
      by_cases c10 : x19_2 = true
      · subst c10
        have H1 : (some y339) = some r := by rw [if_pos rfl] at H; exact H
        clear H
        have H := H1
        clear H1
        obtain rfl := Option.some.inj H
        go_wp2
        go_ret
        exact ⟨_, by first | rfl | (simp [errW_none, errW_some] <;> rfl) | (simp [*, errW_none, errW_some] <;> rfl), by (with_reducible repeat (first | apply Kd.R_alloc | apply Kd.R_drewN | apply Kd.R_drew)); exact HO_5.out, by repeat (first | (with_reducible first | exact HB.out | apply below_alloc | apply pw_below_drewN | apply below_drew1) | exact HB.out)⟩
      · replace c10 := Bool.eq_false_iff.mpr c10
        subst c10
        have H1 : (spec_Failing.l0 kj2 l0 l1 y339 0) = some r := by rw [if_neg (show ¬ (false = true) by decide)] at H; exact H
        clear H
        have H := H1
        clear H1
        have H' := Aside0.mk H
        clear H
        go_wp2
        go_loopg [5, 6] kj2 (fun kq v5 v6 w' => ∃ (x5_2 : List ByteArray) (x6_2 : Int), v6 = .int .i64 x6_2 ∧ Aside0 (spec_Failing.l0 kq l0 l1 x5_2 x6_2 = some r) ∧ Aside0 (kq ≤ kj2) ∧ Aside0 (Kd.R Kd.string 9 w' w.heap.size (fun _ => True) v5 x5_2) ∧ Aside0 (Below w.heap.size w w'))
        case atStart => exact ⟨(y339), (0), (by first | rfl | (simp; done) | (simp [*]; done)), H', ⟨Nat.le_refl _⟩, ⟨by (with_reducible repeat (first | apply Kd.R_alloc | apply Kd.R_drewN | apply Kd.R_drew)); exact HO_5.out⟩, ⟨by repeat (first | (with_reducible first | exact HB.out | apply below_alloc | apply pw_below_drewN | apply below_drew1) | exact HB.out)⟩⟩
        case round =>
          clear H'
          try clear c1
          try clear p2
          try clear c7
          try clear c10
          try clear p2
          obtain ⟨x5_2, x6_2, rfl, HA, HK2, HO_5, HB⟩ := hrel
          cases gk with
          | zero => exact absurd HA.out (by simp [spec_Failing.l0])
          | succ k2 =>
            have H := HA.out
            clear HA
            simp only [spec_Failing.l0] at H
            by_cases c11 : x6_2 ≤ (l0.length : Int)
            · rw [if_pos c11] at H
              have c11b0 : decide (x6_2 ≤ (l0.length : Int)) = true := decide_eq_true c11
              clear c11
              have H' := Aside0.mk H
              clear H
              go_wp2
              go_loopg [5, 7] k2 (fun kq v5 v7 w' => ∃ (x5_3 : List ByteArray) (x7_3 : Int), v7 = .int .i64 x7_3 ∧ Aside0 (spec_Failing.l1 kq l0 l1 x5_3 x6_2 x7_3 = some r) ∧ Aside0 (kq ≤ k2) ∧ Aside0 (Kd.R Kd.string 9 w' w.heap.size (fun _ => True) v5 x5_3) ∧ Aside0 (Below w.heap.size w w'))
              case atStart => exact ⟨(x5_2), (0), (by first | rfl | (simp; done) | (simp [*]; done)), H', ⟨Nat.le_refl _⟩, ⟨by (with_reducible repeat (first | apply Kd.R_alloc | apply Kd.R_drewN | apply Kd.R_drew)); exact HO_5.out⟩, ⟨by repeat (first | (with_reducible first | exact HB.out | apply below_alloc | apply pw_below_drewN | apply below_drew1) | exact HB.out)⟩⟩
              case round =>
                clear H'
                try clear c1
                try clear p2
                try clear c7
                try clear c10
                try clear c11
                try clear c11b0
                try clear p2
                obtain ⟨x5_3, x7_3, rfl, HA, HK3, HO_5, HB⟩ := hrel
                cases gk with
                | zero => exact absurd HA.out (by simp [spec_Failing.l1])
                | succ k3 =>
                  have H := HA.out
                  clear HA
                  simp only [spec_Failing.l1] at H
                  by_cases c12 : x7_3 < (l0.length : Int)
                  · rw [if_pos c12] at H
                    have c12b0 : decide (x7_3 < (l0.length : Int)) = true := decide_eq_true c12
                    clear c12
                    by_cases c13 : 0 ≤ x7_3
                    · rw [if_pos c13] at H
                      have c13b0 : decide (0 ≤ x7_3) = true := decide_eq_true c13
                      clear c13
                      replace H := Option.bind_eq_some_iff.mp H
                      obtain ⟨t345, A140, H⟩ := H
                      replace H : (spec_Failing.l2 k3 l0 l1 x5_3 x6_2 x7_3 t345 0 ((rd_T32 l0 x7_3).f0) ((rd_T32 l0 x7_3).f1) ((rd_T32 l0 x7_3).f2) ((rd_T32 l0 x7_3).f3) ((rd_T32 l0 x7_3).f4)) = some r := H
                      have A14 := Aside0.mk A140
                      clear A140
                      have H' := Aside0.mk H
                      clear H
                      have p343 : 0 ≤ (x7_3 : Int) := of_decide_eq_true (by first | (with_reducible assumption) | assumption)
                      have q343 : x7_3 < (l0.length : Int) := of_decide_eq_true (by first | (with_reducible assumption) | assumption)
                      obtain ⟨ad343, A343_1, c343_1, A343_2, c343_2, e343, hx343_0, hx343_1, hx343_2, hx343_3, hx343_4, hl343_1, hi343_1, hl343_2, hi343_2⟩ := at_T32 HR0.out x7_3 p343 q343
                      cases e343
                      replace hx343_0 := (HB.out.cell (World.block_lt_of_cell? w _ hx343_0)).trans hx343_0
                      replace hx343_1 := (HB.out.cell (World.block_lt_of_cell? w _ hx343_1)).trans hx343_1
                      replace hx343_2 := (HB.out.cell (World.block_lt_of_cell? w _ hx343_2)).trans hx343_2
                      replace hx343_3 := (HB.out.cell (World.block_lt_of_cell? w _ hx343_3)).trans hx343_3
                      replace hx343_4 := (HB.out.cell (World.block_lt_of_cell? w _ hx343_4)).trans hx343_4
                      have HR343_1 := Aside0.mk hi343_1
                      have HC343_1 := Aside0.mk hl343_1
                      clear hi343_1 hl343_1
                      have HR343_2 := Aside0.mk hi343_2
                      have HC343_2 := Aside0.mk hl343_2
                      clear hi343_2 hl343_2
                      replace p343 := eq_true p343
                      replace q343 := eq_true q343
                      go_wp2_with (first | ((with_reducible refine gate_dst (N := 8) rfl ?_); (try (refine gate_guard (by rfl) ?_; dsimp only)); refine box_event ?hg (N := 8) ?hd (cs := #[.string (⟨#[]⟩ : ByteArray), .slice none 0 0, .slice none 0 0, .string (⟨#[]⟩ : ByteArray), .bool false]) (t := 32) ?hr ?_; (case hd => rfl); (case hg => rfl); (case hr => first | (go_simp; done) | (go_simp; rfl)); intro gb344 hg w15 hbox hb; have n0_ := Aside0.mk (Kd.R_below (by (with_reducible repeat (first | apply Kd.R_alloc | apply Kd.R_drewN | apply Kd.R_drew)); exact HO_5.out) hb); have n1_ := Aside0.mk (below_step (by repeat (first | (with_reducible first | exact HB.out | apply below_alloc | apply pw_below_drewN | apply below_drew1) | exact HB.out)) hb); have n2_ := Aside0.mk (hbox); have n3_ := Aside0.mk ((by rw [hg]; exact (below_size (by repeat (first | (with_reducible first | exact HB.out | apply below_alloc | apply pw_below_drewN | apply below_drew1) | exact HB.out))) : w.heap.size ≤ gb344)); have n4_ := Aside0.mk ((by rw [hg]; exact (below_size (by repeat (first | (with_reducible first | exact HB.out | apply below_alloc | apply pw_below_drewN | apply below_drew1) | exact HB.out))) : w.heap.size ≤ gb344)); clear HO_5; clear HB; have HO_5 := n0_; have HB := n1_; have BK344 := n2_; have GW344 := n3_; have GE344 := n4_; clear n0_ n1_ n2_ n3_ n4_; clear hb hbox hg; have hcz16_0 : w15.cell? ⟨gb344, 0, none⟩ = some (.string (⟨#[]⟩ : ByteArray)) := (blk_cell BK344.out 0).trans rfl; have hcz16_1 : w15.cell? ⟨gb344, 1, none⟩ = some (.slice none 0 0) := (blk_cell BK344.out 1).trans rfl; have hcz16_2 : w15.cell? ⟨gb344, 2, none⟩ = some (.slice none 0 0) := (blk_cell BK344.out 2).trans rfl; have hcz16_3 : w15.cell? ⟨gb344, 3, none⟩ = some (.string (⟨#[]⟩ : ByteArray)) := (blk_cell BK344.out 3).trans rfl; have hcz16_4 : w15.cell? ⟨gb344, 4, none⟩ = some (.bool false) := (blk_cell BK344.out 4).trans rfl; have hfz16_0 := blk_frozen BK344.out 0; have hfz16_1 := blk_frozen BK344.out 1; have hfz16_2 := blk_frozen BK344.out 2; have hfz16_3 := blk_frozen BK344.out 3; have hfz16_4 := blk_frozen BK344.out 4) | ((with_reducible refine gate_callee (f := 51) rfl ?_); refine goesL_ (some 40) rfl rfl Try.func51 (by kernel_rfl) rfl #[.slice A1 l1.length c1, .string ((rd_T32 l0 x7_3).f0)] rfl (by (try simp only [List.map_toArray, List.map_cons, List.map_nil]); first | done | rfl | (simp only [List.length_drop, List.length_take]; rfl)) ?_; (with_reducible refine (spec_l3Has.calls k3 _ _ l1 ((rd_T32 l0 x7_3).f0) t345 _ ?side1 ?side2 A14.out).mono ?_); (case side1 => exact Kd.C_below HR1.out (by repeat (first | (with_reducible first | exact HB.out | apply below_alloc | apply pw_below_drewN | apply below_drew1 | refine below_set ?_ GE344.out) | exact HB.out))); (case side2 => exact HC1.out); rintro e w' ⟨rfl, ⟨nd, rfl⟩⟩; refine ⟨_, rfl, ?_⟩))
                      go_loopg [9, 10] k3 (fun kq v9 v10 w' => ∃ (x9_4 : Bool) (x10_4 : Int), v9 = .bool x9_4 ∧ v10 = .int .i64 x10_4 ∧ Aside0 (spec_Failing.l2 kq l0 l1 x5_3 x6_2 x7_3 x9_4 x10_4 ((rd_T32 l0 x7_3).f0) ((rd_T32 l0 x7_3).f1) ((rd_T32 l0 x7_3).f2) ((rd_T32 l0 x7_3).f3) ((rd_T32 l0 x7_3).f4) = some r) ∧ Aside0 (kq ≤ k3) ∧ Aside0 (Kd.R Kd.string 9 w' w.heap.size (fun _ => True) u5 x5_3) ∧ Aside0 (w'.heap[gb344]? = some (.cells #[.string ((rd_T32 l0 x7_3).f0), (.slice A343_1 ((rd_T32 l0 x7_3).f1).length c343_1), (.slice A343_2 ((rd_T32 l0 x7_3).f2).length c343_2), .string ((rd_T32 l0 x7_3).f3), .bool ((rd_T32 l0 x7_3).f4)] 32 (0, 0))) ∧ Aside0 (Below w.heap.size w w'))
                      case atStart => exact ⟨(t345), (0), (by first | rfl | (simp; done) | (simp [*]; done)), (by first | rfl | (simp; done) | (simp [*]; done)), H', ⟨Nat.le_refl _⟩, ⟨by (with_reducible repeat (first | apply Kd.R_alloc | apply Kd.R_drewN | apply Kd.R_drew)); exact Kd.R_mono (Kd.R_far (p := ⟨gb344, 4, none⟩) (Kd.R_far (p := ⟨gb344, 3, none⟩) (Kd.R_far (p := ⟨gb344, 2, none⟩) (Kd.R_far (p := ⟨gb344, 1, none⟩) (Kd.R_far (p := ⟨gb344, 0, none⟩) (Kd.R_types HO_5.out BK344.out (by decide)) (fun _ hk => hk.2) (.string ((rd_T32 l0 x7_3).f0))) (fun _ hk => hk.2) (.slice A343_1 ((rd_T32 l0 x7_3).f1).length c343_1)) (fun _ hk => hk.2) (.slice A343_2 ((rd_T32 l0 x7_3).f2).length c343_2)) (fun _ hk => hk.2) (.string ((rd_T32 l0 x7_3).f3))) (fun _ hk => hk.2) (.bool ((rd_T32 l0 x7_3).f4))) (fun _ hk => trivial)⟩, ⟨by (with_reducible repeat (first | refine blk_drewN ?_ _ | refine blk_drew ?_ | refine blk_alloc ?_ _)); refine blk_put (cs := #[.string ((rd_T32 l0 x7_3).f0), .slice A343_1 ((rd_T32 l0 x7_3).f1).length c343_1, .slice A343_2 ((rd_T32 l0 x7_3).f2).length c343_2, .string ((rd_T32 l0 x7_3).f3), .bool false]) ?_ 4 _ rfl; (with_reducible repeat (first | refine blk_drewN ?_ _ | refine blk_drew ?_ | refine blk_alloc ?_ _)); refine blk_put (cs := #[.string ((rd_T32 l0 x7_3).f0), .slice A343_1 ((rd_T32 l0 x7_3).f1).length c343_1, .slice A343_2 ((rd_T32 l0 x7_3).f2).length c343_2, .string (⟨#[]⟩ : ByteArray), .bool false]) ?_ 3 _ rfl; (with_reducible repeat (first | refine blk_drewN ?_ _ | refine blk_drew ?_ | refine blk_alloc ?_ _)); refine blk_put (cs := #[.string ((rd_T32 l0 x7_3).f0), .slice A343_1 ((rd_T32 l0 x7_3).f1).length c343_1, .slice none 0 0, .string (⟨#[]⟩ : ByteArray), .bool false]) ?_ 2 _ rfl; (with_reducible repeat (first | refine blk_drewN ?_ _ | refine blk_drew ?_ | refine blk_alloc ?_ _)); refine blk_put (cs := #[.string ((rd_T32 l0 x7_3).f0), .slice none 0 0, .slice none 0 0, .string (⟨#[]⟩ : ByteArray), .bool false]) ?_ 1 _ rfl; (with_reducible repeat (first | refine blk_drewN ?_ _ | refine blk_drew ?_ | refine blk_alloc ?_ _)); refine blk_put (cs := #[.string (⟨#[]⟩ : ByteArray), .slice none 0 0, .slice none 0 0, .string (⟨#[]⟩ : ByteArray), .bool false]) ?_ 0 _ rfl; (with_reducible repeat (first | refine blk_drewN ?_ _ | refine blk_drew ?_ | refine blk_alloc ?_ _)); exact BK344.out⟩, ⟨by repeat (first | (with_reducible first | exact HB.out | apply below_alloc | apply pw_below_drewN | apply below_drew1 | refine below_set ?_ GE344.out) | exact HB.out)⟩⟩
                      case round =>
                        clear H'
                        try clear c1
                        try clear p2
                        try clear c3
                        try clear p3
                        try clear q3
                        try clear hx3
                        try clear c5
                        try clear c7
                        try clear c10
                        try clear c11
                        try clear c11b0
                        try clear c12
                        try clear c12b0
                        try clear c13
                        try clear c13b0
                        try clear c15
                        try clear hcz16_0
                        try clear hcz16_1
                        try clear hcz16_2
                        try clear hcz16_3
                        try clear hcz16_4
                        try clear hfz16_0
                        try clear hfz16_1
                        try clear hfz16_2
                        try clear hfz16_3
                        try clear hfz16_4
                        try clear hx343_0
                        try clear hx343_1
                        try clear hx343_2
                        try clear hx343_3
                        try clear hx343_4
                        try clear p2
                        try clear p343
                        try clear q343
                        obtain ⟨x9_4, x10_4, rfl, rfl, HA, HK4, HO_5, BK344, HB⟩ := hrel
                        cases gk with
                        | zero => exact absurd HA.out (by simp [spec_Failing.l2])
                        | succ k4 =>
                          have H := HA.out
                          clear HA
                          simp only [spec_Failing.l2] at H
                          by_cases c17 : x10_4 < (((rd_T32 l0 x7_3).f2).length : Int)
                          · rw [if_pos c17] at H
                            have c17b0 : decide (x10_4 < (((rd_T32 l0 x7_3).f2).length : Int)) = true := decide_eq_true c17
                            clear c17
                            by_cases c18 : x9_4 = true
                            · subst c18
                              have H1 : (spec_Failing.l2 k4 l0 l1 x5_3 x6_2 x7_3 true (wrap64 (x10_4 + 1)) ((rd_T32 l0 x7_3).f0) ((rd_T32 l0 x7_3).f1) ((rd_T32 l0 x7_3).f2) ((rd_T32 l0 x7_3).f3) ((rd_T32 l0 x7_3).f4)) = some r := by rw [if_pos rfl] at H; exact H
                              clear H
                              have H := H1
                              clear H1
                              have H' := Aside0.mk H
                              clear H
                              have hcz19_0 : wr.cell? ⟨gb344, 0, none⟩ = some (.string ((rd_T32 l0 x7_3).f0)) := (blk_cell BK344.out 0).trans rfl
                              have hcz19_1 : wr.cell? ⟨gb344, 1, none⟩ = some (.slice A343_1 ((rd_T32 l0 x7_3).f1).length c343_1) := (blk_cell BK344.out 1).trans rfl
                              have hcz19_2 : wr.cell? ⟨gb344, 2, none⟩ = some (.slice A343_2 ((rd_T32 l0 x7_3).f2).length c343_2) := (blk_cell BK344.out 2).trans rfl
                              have hcz19_3 : wr.cell? ⟨gb344, 3, none⟩ = some (.string ((rd_T32 l0 x7_3).f3)) := (blk_cell BK344.out 3).trans rfl
                              have hcz19_4 : wr.cell? ⟨gb344, 4, none⟩ = some (.bool ((rd_T32 l0 x7_3).f4)) := (blk_cell BK344.out 4).trans rfl
                              have hfz19_0 := blk_frozen BK344.out 0
                              have hfz19_1 := blk_frozen BK344.out 1
                              have hfz19_2 := blk_frozen BK344.out 2
                              have hfz19_3 := blk_frozen BK344.out 3
                              have hfz19_4 := blk_frozen BK344.out 4
                              go_wp2
                              go_roundg k4
                              case measure => have := HJ2.out; have := HK2.out; have := HK3.out; have := HK4.out; omega
                              case rel => exact ⟨(true), (wrap64 (x10_4 + 1)), (by first | rfl | (simp; done) | (simp [*]; done)), (by first | rfl | (simp; done) | (simp [*]; done)), H', ⟨by have := HJ2.out; have := HK2.out; have := HK3.out; have := HK4.out; omega⟩, ⟨by (with_reducible repeat (first | apply Kd.R_alloc | apply Kd.R_drewN | apply Kd.R_drew)); exact HO_5.out⟩, ⟨by (with_reducible repeat (first | refine blk_drewN ?_ _ | refine blk_drew ?_ | refine blk_alloc ?_ _)); exact BK344.out⟩, ⟨by repeat (first | (with_reducible first | exact HB.out | apply below_alloc | apply pw_below_drewN | apply below_drew1 | refine below_set ?_ GE344.out) | exact HB.out)⟩⟩
                            · replace c18 := Bool.eq_false_iff.mpr c18
                              subst c18
                              have H1 : (if 0 ≤ x10_4 then ((spec_l3Has.f k4 x5_3 (rdOf ByteArray.empty ((rd_T32 l0 x7_3).f2) x10_4)).bind fun t347 => (if t347 = true then (spec_Failing.l2 k4 l0 l1 x5_3 x6_2 x7_3 true (wrap64 (x10_4 + 1)) ((rd_T32 l0 x7_3).f0) ((rd_T32 l0 x7_3).f1) ((rd_T32 l0 x7_3).f2) ((rd_T32 l0 x7_3).f3) ((rd_T32 l0 x7_3).f4)) else ((spec_l18Find.f k4 l0 (rdOf ByteArray.empty ((rd_T32 l0 x7_3).f2) x10_4)).bind fun t349 => (spec_Failing.l2 k4 l0 l1 x5_3 x6_2 x7_3 (decide (t349 < 0)) (wrap64 (x10_4 + 1)) ((rd_T32 l0 x7_3).f0) ((rd_T32 l0 x7_3).f1) ((rd_T32 l0 x7_3).f2) ((rd_T32 l0 x7_3).f3) ((rd_T32 l0 x7_3).f4))))) else (none)) = some r := by rw [if_neg (show ¬ (false = true) by decide)] at H; exact H
                              clear H
                              have H := H1
                              clear H1
                              by_cases c20 : 0 ≤ x10_4
                              · rw [if_pos c20] at H
                                have c20b0 : decide (0 ≤ x10_4) = true := decide_eq_true c20
                                clear c20
                                replace H := Option.bind_eq_some_iff.mp H
                                obtain ⟨t347, A210, H⟩ := H
                                replace H : (if t347 = true then (spec_Failing.l2 k4 l0 l1 x5_3 x6_2 x7_3 true (wrap64 (x10_4 + 1)) ((rd_T32 l0 x7_3).f0) ((rd_T32 l0 x7_3).f1) ((rd_T32 l0 x7_3).f2) ((rd_T32 l0 x7_3).f3) ((rd_T32 l0 x7_3).f4)) else ((spec_l18Find.f k4 l0 (rdOf ByteArray.empty ((rd_T32 l0 x7_3).f2) x10_4)).bind fun t349 => (spec_Failing.l2 k4 l0 l1 x5_3 x6_2 x7_3 (decide (t349 < 0)) (wrap64 (x10_4 + 1)) ((rd_T32 l0 x7_3).f0) ((rd_T32 l0 x7_3).f1) ((rd_T32 l0 x7_3).f2) ((rd_T32 l0 x7_3).f3) ((rd_T32 l0 x7_3).f4)))) = some r := H
                                have A21 := Aside0.mk A210
                                clear A210
                                by_cases c22 : t347 = true
                                · subst c22
                                  have H1 : (spec_Failing.l2 k4 l0 l1 x5_3 x6_2 x7_3 true (wrap64 (x10_4 + 1)) ((rd_T32 l0 x7_3).f0) ((rd_T32 l0 x7_3).f1) ((rd_T32 l0 x7_3).f2) ((rd_T32 l0 x7_3).f3) ((rd_T32 l0 x7_3).f4)) = some r := by rw [if_pos rfl] at H; exact H
                                  clear H
                                  have H := H1
                                  clear H1
                                  have H' := Aside0.mk H
                                  clear H
                                  have hcz23_0 : wr.cell? ⟨gb344, 0, none⟩ = some (.string ((rd_T32 l0 x7_3).f0)) := (blk_cell BK344.out 0).trans rfl
                                  have hcz23_1 : wr.cell? ⟨gb344, 1, none⟩ = some (.slice A343_1 ((rd_T32 l0 x7_3).f1).length c343_1) := (blk_cell BK344.out 1).trans rfl
                                  have hcz23_2 : wr.cell? ⟨gb344, 2, none⟩ = some (.slice A343_2 ((rd_T32 l0 x7_3).f2).length c343_2) := (blk_cell BK344.out 2).trans rfl
                                  have hcz23_3 : wr.cell? ⟨gb344, 3, none⟩ = some (.string ((rd_T32 l0 x7_3).f3)) := (blk_cell BK344.out 3).trans rfl
                                  have hcz23_4 : wr.cell? ⟨gb344, 4, none⟩ = some (.bool ((rd_T32 l0 x7_3).f4)) := (blk_cell BK344.out 4).trans rfl
                                  have hfz23_0 := blk_frozen BK344.out 0
                                  have hfz23_1 := blk_frozen BK344.out 1
                                  have hfz23_2 := blk_frozen BK344.out 2
                                  have hfz23_3 := blk_frozen BK344.out 3
                                  have hfz23_4 := blk_frozen BK344.out 4
                                  have p346 : 0 ≤ (x10_4 : Int) := of_decide_eq_true (by first | (with_reducible assumption) | assumption)
                                  have q346 : x10_4 < (((rd_T32 l0 x7_3).f2).length : Int) := of_decide_eq_true (by first | (with_reducible assumption) | assumption)
                                  obtain ⟨ad346, e346, hx346_0⟩ := Kd.at_string HR343_2.out x10_4 p346 q346
                                  cases e346
                                  replace hx346_0 := (HB.out.cell (World.block_lt_of_cell? w _ hx346_0)).trans hx346_0
                                  replace p346 := eq_true p346
                                  replace q346 := eq_true q346
                                  obtain ⟨Ao24, co24, eo24⟩ := Kd.R_slice HO_5.out
                                  subst eo24
                                  go_wp2_with (first | (go_at_call 51; (with_reducible refine (spec_l3Has.calls k4 _ _ x5_3 (rdOf ByteArray.empty ((rd_T32 l0 x7_3).f2) x10_4) true _ ?side1 ?side2 A21.out).mono ?_); (case side1 => repeat (first | exact (Kd.R_reads' HO_5.out).2.2 | (with_reducible refine Kd.C_alloc ?_ _) | (with_reducible refine Kd.C_drewN ?_ _) | (with_reducible refine Kd.C_drew ?_))); (case side2 => exact (Kd.R_reads' HO_5.out).2.1); rintro e w' ⟨rfl, ⟨nd, rfl⟩⟩))
                                  go_roundg k4
                                  case measure => have := HJ2.out; have := HK2.out; have := HK3.out; have := HK4.out; omega
                                  case rel => exact ⟨(true), (wrap64 (x10_4 + 1)), (by first | rfl | (simp; done) | (simp [*]; done)), (by first | rfl | (simp; done) | (simp [*]; done)), H', ⟨by have := HJ2.out; have := HK2.out; have := HK3.out; have := HK4.out; omega⟩, ⟨by (with_reducible repeat (first | apply Kd.R_alloc | apply Kd.R_drewN | apply Kd.R_drew)); exact HO_5.out⟩, ⟨by (with_reducible repeat (first | refine blk_drewN ?_ _ | refine blk_drew ?_ | refine blk_alloc ?_ _)); exact BK344.out⟩, ⟨by repeat (first | (with_reducible first | exact HB.out | apply below_alloc | apply pw_below_drewN | apply below_drew1 | refine below_set ?_ GE344.out) | exact HB.out)⟩⟩
                                · replace c22 := Bool.eq_false_iff.mpr c22
                                  subst c22
                                  have H1 : ((spec_l18Find.f k4 l0 (rdOf ByteArray.empty ((rd_T32 l0 x7_3).f2) x10_4)).bind fun t349 => (spec_Failing.l2 k4 l0 l1 x5_3 x6_2 x7_3 (decide (t349 < 0)) (wrap64 (x10_4 + 1)) ((rd_T32 l0 x7_3).f0) ((rd_T32 l0 x7_3).f1) ((rd_T32 l0 x7_3).f2) ((rd_T32 l0 x7_3).f3) ((rd_T32 l0 x7_3).f4))) = some r := by rw [if_neg (show ¬ (false = true) by decide)] at H; exact H
                                  clear H
                                  have H := H1
                                  clear H1
                                  replace H := Option.bind_eq_some_iff.mp H
                                  obtain ⟨t349, A250, H⟩ := H
                                  replace H : (spec_Failing.l2 k4 l0 l1 x5_3 x6_2 x7_3 (decide (t349 < 0)) (wrap64 (x10_4 + 1)) ((rd_T32 l0 x7_3).f0) ((rd_T32 l0 x7_3).f1) ((rd_T32 l0 x7_3).f2) ((rd_T32 l0 x7_3).f3) ((rd_T32 l0 x7_3).f4)) = some r := H
                                  have A25 := Aside0.mk A250
                                  clear A250
                                  have H' := Aside0.mk H
                                  clear H
                                  have hcz26_0 : wr.cell? ⟨gb344, 0, none⟩ = some (.string ((rd_T32 l0 x7_3).f0)) := (blk_cell BK344.out 0).trans rfl
                                  have hcz26_1 : wr.cell? ⟨gb344, 1, none⟩ = some (.slice A343_1 ((rd_T32 l0 x7_3).f1).length c343_1) := (blk_cell BK344.out 1).trans rfl
                                  have hcz26_2 : wr.cell? ⟨gb344, 2, none⟩ = some (.slice A343_2 ((rd_T32 l0 x7_3).f2).length c343_2) := (blk_cell BK344.out 2).trans rfl
                                  have hcz26_3 : wr.cell? ⟨gb344, 3, none⟩ = some (.string ((rd_T32 l0 x7_3).f3)) := (blk_cell BK344.out 3).trans rfl
                                  have hcz26_4 : wr.cell? ⟨gb344, 4, none⟩ = some (.bool ((rd_T32 l0 x7_3).f4)) := (blk_cell BK344.out 4).trans rfl
                                  have hfz26_0 := blk_frozen BK344.out 0
                                  have hfz26_1 := blk_frozen BK344.out 1
                                  have hfz26_2 := blk_frozen BK344.out 2
                                  have hfz26_3 := blk_frozen BK344.out 3
                                  have hfz26_4 := blk_frozen BK344.out 4
                                  have p346 : 0 ≤ (x10_4 : Int) := of_decide_eq_true (by first | (with_reducible assumption) | assumption)
                                  have q346 : x10_4 < (((rd_T32 l0 x7_3).f2).length : Int) := of_decide_eq_true (by first | (with_reducible assumption) | assumption)
                                  obtain ⟨ad346, e346, hx346_0⟩ := Kd.at_string HR343_2.out x10_4 p346 q346
                                  cases e346
                                  replace hx346_0 := (HB.out.cell (World.block_lt_of_cell? w _ hx346_0)).trans hx346_0
                                  replace p346 := eq_true p346
                                  replace q346 := eq_true q346
                                  obtain ⟨Ao27, co27, eo27⟩ := Kd.R_slice HO_5.out
                                  subst eo27
                                  go_wp2_with (first | (go_at_call 51; (with_reducible refine (spec_l3Has.calls k4 _ _ x5_3 (rdOf ByteArray.empty ((rd_T32 l0 x7_3).f2) x10_4) false _ ?side1 ?side2 A21.out).mono ?_); (case side1 => repeat (first | exact (Kd.R_reads' HO_5.out).2.2 | (with_reducible refine Kd.C_alloc ?_ _) | (with_reducible refine Kd.C_drewN ?_ _) | (with_reducible refine Kd.C_drew ?_))); (case side2 => exact (Kd.R_reads' HO_5.out).2.1); rintro e w' ⟨rfl, ⟨nd, rfl⟩⟩; have p348 : 0 ≤ (x10_4 : Int) := of_decide_eq_true (by first | (with_reducible assumption) | assumption); have q348 : x10_4 < (((rd_T32 l0 x7_3).f2).length : Int) := of_decide_eq_true (by first | (with_reducible assumption) | assumption); obtain ⟨ad348, e348, hx348_0⟩ := Kd.at_string HR343_2.out x10_4 p348 q348; obtain rfl : ad346 = ad348 := (by injection e348); replace hx348_0 := (HB.out.cell (World.block_lt_of_cell? w _ hx348_0)).trans hx348_0; replace p348 := eq_true p348; replace q348 := eq_true q348) | (go_at_call 52; (with_reducible refine (spec_l18Find.calls k4 _ _ l0 (rdOf ByteArray.empty ((rd_T32 l0 x7_3).f2) x10_4) t349 _ ?side1 ?side2 A25.out).mono ?_); (case side1 => repeat (first | exact (Kd.C_below HR0.out (by repeat (first | (with_reducible first | exact HB.out | apply below_alloc | apply pw_below_drewN | apply below_drew1 | refine below_set ?_ GE344.out) | exact HB.out))) | (with_reducible refine Kd.C_alloc ?_ _) | (with_reducible refine Kd.C_drewN ?_ _) | (with_reducible refine Kd.C_drew ?_))); (case side2 => exact HC0.out); rintro e w' ⟨rfl, ⟨nd, rfl⟩⟩))
                                  go_roundg k4
                                  case measure => have := HJ2.out; have := HK2.out; have := HK3.out; have := HK4.out; omega
                                  case rel => exact ⟨(decide (t349 < 0)), (wrap64 (x10_4 + 1)), (by first | rfl | (simp; done) | (simp [*]; done)), (by first | rfl | (simp; done) | (simp [*]; done)), H', ⟨by have := HJ2.out; have := HK2.out; have := HK3.out; have := HK4.out; omega⟩, ⟨by (with_reducible repeat (first | apply Kd.R_alloc | apply Kd.R_drewN | apply Kd.R_drew)); exact HO_5.out⟩, ⟨by (with_reducible repeat (first | refine blk_drewN ?_ _ | refine blk_drew ?_ | refine blk_alloc ?_ _)); exact BK344.out⟩, ⟨by repeat (first | (with_reducible first | exact HB.out | apply below_alloc | apply pw_below_drewN | apply below_drew1 | refine below_set ?_ GE344.out) | exact HB.out)⟩⟩
                              · rw [if_neg c20] at H
                                exact absurd H (by simp)
                          · rw [if_neg c17] at H
                            have c17b0 : decide (x10_4 < (((rd_T32 l0 x7_3).f2).length : Int)) = false := decide_eq_false c17
                            clear c17
                            by_cases c28 : x9_4 = true
                            · subst c28
                              have H1 : ((spec_l3Add.f k4 x5_3 ((rd_T32 l0 x7_3).f0)).bind fun t350 => (spec_Failing.l1 k4 l0 l1 t350 x6_2 (wrap64 (x7_3 + 1)))) = some r := by rw [if_pos rfl] at H; exact H
                              clear H
                              have H := H1
                              clear H1
                              replace H := Option.bind_eq_some_iff.mp H
                              obtain ⟨t350, A290, H⟩ := H
                              replace H : (spec_Failing.l1 k4 l0 l1 t350 x6_2 (wrap64 (x7_3 + 1))) = some r := H
                              have A29 := Aside0.mk A290
                              clear A290
                              have H' := Aside0.mk H
                              clear H
                              have hcz30_0 : wr.cell? ⟨gb344, 0, none⟩ = some (.string ((rd_T32 l0 x7_3).f0)) := (blk_cell BK344.out 0).trans rfl
                              have hcz30_1 : wr.cell? ⟨gb344, 1, none⟩ = some (.slice A343_1 ((rd_T32 l0 x7_3).f1).length c343_1) := (blk_cell BK344.out 1).trans rfl
                              have hcz30_2 : wr.cell? ⟨gb344, 2, none⟩ = some (.slice A343_2 ((rd_T32 l0 x7_3).f2).length c343_2) := (blk_cell BK344.out 2).trans rfl
                              have hcz30_3 : wr.cell? ⟨gb344, 3, none⟩ = some (.string ((rd_T32 l0 x7_3).f3)) := (blk_cell BK344.out 3).trans rfl
                              have hcz30_4 : wr.cell? ⟨gb344, 4, none⟩ = some (.bool ((rd_T32 l0 x7_3).f4)) := (blk_cell BK344.out 4).trans rfl
                              have hfz30_0 := blk_frozen BK344.out 0
                              have hfz30_1 := blk_frozen BK344.out 1
                              have hfz30_2 := blk_frozen BK344.out 2
                              have hfz30_3 := blk_frozen BK344.out 3
                              have hfz30_4 := blk_frozen BK344.out 4
                              obtain ⟨Ao31, co31, eo31⟩ := Kd.R_slice HO_5.out
                              subst eo31
                              go_wp2_with (first | ((with_reducible refine gate_callee (f := 53) rfl ?_); refine goesL_ (some 72) rfl rfl Try.func53 (by kernel_rfl) rfl #[.slice Ao31 x5_3.length co31, .string ((rd_T32 l0 x7_3).f0)] rfl (by (try simp only [List.map_toArray, List.map_cons, List.map_nil]); first | done | rfl | (simp only [List.length_drop, List.length_take]; rfl)) ?_; (with_reducible refine (spec_l3Add.calls k4 (fun k_ => some k_ = (.slice Ao31 x5_3.length co31 : Value).ownBlock) (.slice Ao31 x5_3.length co31) x5_3 ((rd_T32 l0 x7_3).f0) t350 w _ ?side1 ?side2 A29.out).mono ?_); (case side1 => repeat (first | (with_reducible first | exact HB.out | apply below_alloc | apply pw_below_drewN | apply below_drew1 | refine below_set ?_ GE344.out) | exact HB.out)); (case side2 => exact Kd.R_tight rfl HO_5.out); rintro e w32 ⟨v351, rfl, ho0, hb, hkp⟩; refine ⟨_, rfl, ?_⟩; have n0_ := Aside0.mk (blk_kept (by (with_reducible repeat (first | refine blk_drewN ?_ _ | refine blk_drew ?_ | refine blk_alloc ?_ _)); exact BK344.out) hkp (fun hs_ => (fun e_ => (Kd.R_ne HO_5.out BK344.out (by decide)) e_) hs_)); have n1_ := Aside0.mk (Kd.R_mono (ok' := fun k_ => True) ho0 (fun k_ hk_ => trivial)); have n2_ := Aside0.mk (hb); clear BK344; clear HB; clear HO_5; have BK344 := n0_; have HO352 := n1_; have HB := n2_; clear n0_ n1_ n2_; (try clear hb); (try clear hkp); (try clear ho0)))
                              go_roundg k4
                              case measure => have := HJ2.out; have := HK2.out; have := HK3.out; have := HK4.out; omega
                              case rel => exact ⟨(t350), (wrap64 (x7_3 + 1)), (by first | rfl | (simp; done) | (simp [*]; done)), H', ⟨by have := HJ2.out; have := HK2.out; have := HK3.out; have := HK4.out; omega⟩, ⟨by (with_reducible repeat (first | apply Kd.R_alloc | apply Kd.R_drewN | apply Kd.R_drew)); exact HO352.out⟩, ⟨by repeat (first | (with_reducible first | exact HB.out | apply below_alloc | apply pw_below_drewN | apply below_drew1 | refine below_set ?_ GE344.out) | exact HB.out)⟩⟩
                            · replace c28 := Bool.eq_false_iff.mpr c28
                              subst c28
                              have H1 : (spec_Failing.l1 k4 l0 l1 x5_3 x6_2 (wrap64 (x7_3 + 1))) = some r := by rw [if_neg (show ¬ (false = true) by decide)] at H; exact H
                              clear H
                              have H := H1
                              clear H1
                              have H' := Aside0.mk H
                              clear H
                              have hcz33_0 : wr.cell? ⟨gb344, 0, none⟩ = some (.string ((rd_T32 l0 x7_3).f0)) := (blk_cell BK344.out 0).trans rfl
                              have hcz33_1 : wr.cell? ⟨gb344, 1, none⟩ = some (.slice A343_1 ((rd_T32 l0 x7_3).f1).length c343_1) := (blk_cell BK344.out 1).trans rfl
                              have hcz33_2 : wr.cell? ⟨gb344, 2, none⟩ = some (.slice A343_2 ((rd_T32 l0 x7_3).f2).length c343_2) := (blk_cell BK344.out 2).trans rfl
                              have hcz33_3 : wr.cell? ⟨gb344, 3, none⟩ = some (.string ((rd_T32 l0 x7_3).f3)) := (blk_cell BK344.out 3).trans rfl
                              have hcz33_4 : wr.cell? ⟨gb344, 4, none⟩ = some (.bool ((rd_T32 l0 x7_3).f4)) := (blk_cell BK344.out 4).trans rfl
                              have hfz33_0 := blk_frozen BK344.out 0
                              have hfz33_1 := blk_frozen BK344.out 1
                              have hfz33_2 := blk_frozen BK344.out 2
                              have hfz33_3 := blk_frozen BK344.out 3
                              have hfz33_4 := blk_frozen BK344.out 4
                              go_wp2
                              go_roundg k4
                              case measure => have := HJ2.out; have := HK2.out; have := HK3.out; have := HK4.out; omega
                              case rel => exact ⟨(x5_3), (wrap64 (x7_3 + 1)), (by first | rfl | (simp; done) | (simp [*]; done)), H', ⟨by have := HJ2.out; have := HK2.out; have := HK3.out; have := HK4.out; omega⟩, ⟨by (with_reducible repeat (first | apply Kd.R_alloc | apply Kd.R_drewN | apply Kd.R_drew)); exact HO_5.out⟩, ⟨by repeat (first | (with_reducible first | exact HB.out | apply below_alloc | apply pw_below_drewN | apply below_drew1 | refine below_set ?_ GE344.out) | exact HB.out)⟩⟩
                    · rw [if_neg c13] at H
                      exact absurd H (by simp)
                  · rw [if_neg c12] at H
                    have c12b0 : decide (x7_3 < (l0.length : Int)) = false := decide_eq_false c12
                    clear c12
                    have H' := Aside0.mk H
                    clear H
                    go_wp2
                    go_roundg k3
                    case measure => have := HJ2.out; have := HK2.out; have := HK3.out; omega
                    case rel => exact ⟨(x5_3), (wrap64 (x6_2 + 1)), (by first | rfl | (simp; done) | (simp [*]; done)), H', ⟨by have := HJ2.out; have := HK2.out; have := HK3.out; omega⟩, ⟨by (with_reducible repeat (first | apply Kd.R_alloc | apply Kd.R_drewN | apply Kd.R_drew)); exact HO_5.out⟩, ⟨by repeat (first | (with_reducible first | exact HB.out | apply below_alloc | apply pw_below_drewN | apply below_drew1) | exact HB.out)⟩⟩
            · rw [if_neg c11] at H
              have c11b0 : decide (x6_2 ≤ (l0.length : Int)) = false := decide_eq_false c11
              clear c11
              obtain rfl := Option.some.inj H
              go_wp2
              go_ret
              exact ⟨_, by first | rfl | (simp [errW_none, errW_some] <;> rfl) | (simp [*, errW_none, errW_some] <;> rfl), by (with_reducible repeat (first | apply Kd.R_alloc | apply Kd.R_drewN | apply Kd.R_drew)); exact HO_5.out, by repeat (first | (with_reducible first | exact HB.out | apply below_alloc | apply pw_below_drewN | apply below_drew1) | exact HB.out)⟩
end Go.Proofs.Ytnjmhlhlmokjnaa.G
namespace Go.Proofs.Ytnjmhlhlmokjnaa.G
open Go.RowKit Go.Proofs.YtnjmhlhlmokjnaaW.PrintWords Go.Proofs.YtnjmhlhlmokjnaaW.PrintLast
set_option linter.unusedVariables false
set_option linter.unusedSimpArgs false
theorem nodup_sub_len : ∀ {xs l : List ByteArray}, xs.Nodup → (∀ x ∈ xs, x ∈ l) → xs.length ≤ l.length
  | [], _, _, _ => Nat.zero_le _
  | x :: xs, l, h, hs => by
    have h' := List.nodup_cons.1 h
    letI : BEq ByteArray := instBEqOfDecidableEq
    have := nodup_sub_len (xs := xs) (l := l.erase x) h'.2 (fun y hy => (List.mem_erase_of_ne (fun e => h'.1 (by rw [← e]; exact hy))).2 (hs y (by simp [hy])))
    have h2 := List.length_erase_of_mem (hs x (by simp))
    have h3 := List.length_pos_of_mem (hs x (by simp))
    simp only [List.length_cons]
    omega
theorem l3Add_loop (l : List ByteArray) (x : ByteArray) (hl : l.length ≤ 1000000) (d : Nat) : ∀ i : Nat, i + d = l.length → Ev (fun k => spec_l3Add.l0 k l x (i : Int)) (l.take i ++ insB x (l.drop i)) := by
  induction d with
  | zero =>
    intro i hi
    have e : l.drop i = [] := List.drop_eq_nil_of_le (by omega)
    have e2 : l.take i = l := List.take_of_length_le (by omega)
    rw [e, e2]
    refine Ev.step (f := fun _ => some (l ++ [x])) (fun k => ?_) (Ev.now _)
    rw [spec_l3Add.l0, if_neg (by omega)]
    simp only [Option.bind_some, List.length_nil, List.nil_append, Int.toNat_natCast, Nat.zero_add]
    rw [if_pos (by omega), if_pos (by omega), e2, e, if_pos (by omega), if_pos (by omega), if_pos (by simp; omega), List.append_nil]
  | succ d ih =>
    intro i hi
    have hx := ih (i + 1) (by omega)
    have hw : wrap64 ((i : Int) + 1) = ((i + 1 : Nat) : Int) := by rw [wrap_id (by omega) (by omega)]; omega
    have hil : i < l.length := by omega
    have e : l.drop i = l[i] :: l.drop (i + 1) := List.drop_eq_getElem_cons hil
    have lt : (l.take i).length = i := by rw [List.length_take]; omega
    have lt2 : (l.drop i).length = l.length - i := List.length_drop
    by_cases h1 : lessB l[i] x = true
    · have h1' : Op.bytesLess (l[i]).toList x.toList = true := h1
      have e2 : l.take i ++ insB x (l.drop i) = l.take (i + 1) ++ insB x (l.drop (i + 1)) := by
        rw [e, List.take_succ_eq_append_getElem hil]
        simp only [insB, if_pos h1, List.append_assoc, List.singleton_append]
      rw [e2]
      exact Ev.step (fun k => by rw [spec_l3Add.l0, if_pos (by omega), if_pos (by omega), rdOf_nat _ l i hil, if_pos h1', hw]) hx
    · have h1' : ¬ Op.bytesLess (l[i]).toList x.toList = true := h1
      by_cases h2 : l[i] = x
      · have e2 : l.take i ++ insB x (l.drop i) = l := by
          rw [e]
          simp only [insB, if_neg h1, if_pos h2]
          rw [← e, List.take_append_drop]
        rw [e2]
        exact Ev.step (f := fun _ => some l) (fun k => by rw [spec_l3Add.l0, if_pos (by omega), if_pos (by omega), rdOf_nat _ l i hil, if_neg h1', if_pos (by rw [h2])]) (Ev.now _)
      · have e2 : insB x (l.drop i) = x :: l.drop i := by
          rw [e]
          simp only [insB, if_neg h1, if_neg h2]
        rw [e2]
        refine Ev.step (f := fun _ => some (l.take i ++ x :: l.drop i)) (fun k => ?_) (Ev.now _)
        rw [spec_l3Add.l0, if_pos (by omega), if_pos (by omega), rdOf_nat _ l i hil, if_neg h1', if_neg (fun h => h2 (toList_inj h))]
        simp only [Option.bind_some, List.length_nil, List.nil_append, Int.toNat_natCast, Nat.zero_add]
        rw [if_pos (by omega), if_pos (by omega), if_pos (by omega), if_pos (by rw [List.length_append, lt, lt2]; simp; omega)]
        simp
theorem l3Add_ev (l : List ByteArray) (x : ByteArray) (hl : l.length ≤ 1000000) : Ev (fun k => spec_l3Add.f k l x) (insB x l) := by
  have := l3Add_loop l x hl l.length 0 (by omega)
  rwa [List.take_zero, List.drop_zero, List.nil_append] at this
def condB (us : List S32) (br o : List ByteArray) (u : S32) : Bool := decide (u.f0 ∈ br) || badB us o u
def stepO (us : List S32) (br o : List ByteArray) (u : S32) : List ByteArray := if condB us br o u = true then insB u.f0 o else o
def passO (us : List S32) (br o : List ByteArray) : List ByteArray := us.foldl (stepO us br) o
def iterO (us : List S32) (br : List ByteArray) : Nat → List ByteArray → List ByteArray
  | 0, o => o
  | n + 1, o => iterO us br n (passO us br o)
structure OkO (us : List S32) (br o : List ByteArray) : Prop where
  asc : Asc o
  sound : ∀ x ∈ o, x ∈ failL us br
theorem OkO.len {us : List S32} {br o : List ByteArray} (h : OkO us br o) : o.length ≤ us.length := by
  have h1 := nodup_sub_len (asc_nodup h.asc) (fun x hx => of_decide_eq_true (failL_has x (h.sound x hx)))
  simpa [namesU] using h1
theorem badB_mono {us : List S32} {o o' : List ByteArray} (h : ∀ x ∈ o, x ∈ o') {u : S32} (hb : badB us o u = true) : badB us o' u = true := by
  obtain ⟨n, h1, h2⟩ := badB_iff.1 hb
  exact badB_iff.2 ⟨n, h1, h2.imp id (h n)⟩
theorem condB_mono {us : List S32} {br o o' : List ByteArray} (h : ∀ x ∈ o, x ∈ o') {u : S32} (hb : condB us br o u = true) : condB us br o' u = true := by
  unfold condB at hb ⊢
  rw [Bool.or_eq_true] at hb ⊢
  exact hb.imp id (badB_mono h)
theorem stepO_sub (us : List S32) (br o : List ByteArray) (u : S32) : ∀ x ∈ o, x ∈ stepO us br o u := by
  intro x hx
  unfold stepO
  split
  · exact (mem_insB _ _ _).2 (.inr hx)
  · exact hx
theorem OkO.step {us : List S32} {br o : List ByteArray} (h : OkO us br o) {u : S32} (hu : u ∈ us) : OkO us br (stepO us br o u) := by
  unfold stepO
  split
  · rename_i hc
    refine ⟨asc_insB _ _ h.asc, fun x hx => ?_⟩
    rcases (mem_insB _ _ _).1 hx with rfl | hx
    · unfold condB at hc
      rw [Bool.or_eq_true] at hc
      rcases hc with hc | hc
      · exact failL_base (of_decide_eq_true hc) (decide_eq_true (List.mem_map.2 ⟨u, hu, rfl⟩))
      · obtain ⟨n, h1, h2⟩ := badB_iff.1 hc
        exact failL_closed us br u hu ⟨n, h1, h2.imp id (h.sound n)⟩
    · exact h.sound x hx
  · exact h
theorem fold_sub (us : List S32) (br : List ByteArray) : ∀ (l : List S32) (o : List ByteArray), ∀ x ∈ o, x ∈ l.foldl (stepO us br) o
  | [], _, _, h => h
  | u :: l, o, x, h => fold_sub us br l _ x (stepO_sub us br o u x h)
theorem fold_mem (us : List S32) (br : List ByteArray) : ∀ (l : List S32) (o : List ByteArray) (u : S32), u ∈ l → condB us br o u = true → u.f0 ∈ l.foldl (stepO us br) o
  | a :: l, o, u, hu, hc => by
    rcases List.mem_cons.1 hu with rfl | hu
    · refine fold_sub us br l _ _ ?_
      unfold stepO
      rw [if_pos hc]
      exact (mem_insB _ _ _).2 (.inl rfl)
    · exact fold_mem us br l _ u hu (condB_mono (stepO_sub us br o a) hc)
theorem OkO.fold {us : List S32} {br : List ByteArray} : ∀ (l : List S32) (o : List ByteArray), (∀ u ∈ l, u ∈ us) → OkO us br o → OkO us br (l.foldl (stepO us br) o)
  | [], _, _, h => h
  | u :: l, o, hl, h => OkO.fold l _ (fun v hv => hl v (List.mem_cons_of_mem _ hv)) (h.step (hl u List.mem_cons_self))
def Stable (us : List S32) (br o : List ByteArray) : Prop := ∀ u ∈ us, condB us br o u = true → u.f0 ∈ o
theorem fold_stable {us : List S32} {br o0 : List ByteArray} (hs : Stable us br o0) : ∀ (l : List S32) (o : List ByteArray), (∀ u ∈ l, u ∈ us) → (∀ x, x ∈ o ↔ x ∈ o0) → ∀ x, x ∈ l.foldl (stepO us br) o ↔ x ∈ o0
  | [], _, _, h, x => h x
  | u :: l, o, hl, h, x => by
    refine fold_stable hs l _ (fun v hv => hl v (List.mem_cons_of_mem _ hv)) (fun y => ?_) x
    unfold stepO
    split
    · rename_i hc
      rw [mem_insB, h y]
      constructor
      · rintro (rfl | h')
        · exact hs u (hl u List.mem_cons_self) (condB_mono (fun x hx => (h x).1 hx) hc)
        · exact h'
      · exact .inr
    · exact h y
theorem Stable.congr {us : List S32} {br o o' : List ByteArray} (h : Stable us br o) (e : ∀ x, x ∈ o' ↔ x ∈ o) : Stable us br o' := fun u hu hc => (e _).2 (h u hu (condB_mono (fun x hx => (e x).1 hx) hc))
theorem iter_stable {us : List S32} {br : List ByteArray} : ∀ n o, Stable us br o → ∀ x, x ∈ iterO us br n o ↔ x ∈ o
  | 0, _, _, _ => Iff.rfl
  | n + 1, o, h, x => by
    have e := fold_stable h us o (fun _ hu => hu) (fun _ => Iff.rfl)
    exact (iter_stable n _ (h.congr e) x).trans (e x)
theorem iter_count {us : List S32} {br : List ByteArray} : ∀ n o, Stable us br (iterO us br n o) ∨ n + cntL us o ≤ cntL us (iterO us br n o)
  | 0, o => .inr (by simp [iterO])
  | n + 1, o => by
    by_cases hc : Stable us br o
    · exact .inl (hc.congr (iter_stable (n + 1) o hc))
    · refine (iter_count n _).imp id (fun h => ?_)
      have : cntL us o < cntL us (passO us br o) := by
        refine countP_lt (fun u hu h => decide_eq_true (fold_sub us br us o _ (of_decide_eq_true h))) ?_
        obtain ⟨u, hu⟩ := Classical.not_forall.1 hc
        obtain ⟨h1, h2⟩ := Classical.not_imp.1 hu
        obtain ⟨h2, h3⟩ := Classical.not_imp.1 h2
        exact ⟨u, h1, decide_eq_false h3, decide_eq_true (fold_mem us br us o u h1 h2)⟩
      unfold iterO
      omega
theorem OkO.iter {us : List S32} {br : List ByteArray} : ∀ n o, OkO us br o → OkO us br (iterO us br n o)
  | 0, _, h => h
  | n + 1, o, h => OkO.iter n _ (OkO.fold us o (fun _ hu => hu) h)
theorem iter_is (us : List S32) (br : List ByteArray) : iterO us br (us.length + 1) [] = canonL (failL us br) := by
  have h0 : OkO us br [] := ⟨List.Pairwise.nil, fun x hx => by cases hx⟩
  have h := OkO.iter (us.length + 1) [] h0
  have hs : Stable us br (iterO us br (us.length + 1) []) := by
    rcases iter_count (us := us) (br := br) (us.length + 1) [] with h | h
    · exact h
    · have : cntL us (iterO us br (us.length + 1) []) ≤ us.length := List.countP_le_length
      omega
  refine asc_unique _ _ h.asc (asc_canonL _) (fun x => ?_)
  rw [mem_canonL]
  refine ⟨h.sound x, failL_least ?_ ?_ x⟩
  · intro u hu ⟨n, hn, hb⟩
    refine hs u hu ?_
    unfold condB
    rw [Bool.or_eq_true]
    exact .inr (badB_iff.2 ⟨n, hn, hb⟩)
  · intro x hx hh
    obtain ⟨u, hu, rfl⟩ := List.mem_map.1 (of_decide_eq_true hh)
    refine hs u hu ?_
    unfold condB
    rw [Bool.or_eq_true]
    exact .inl (decide_eq_true hx)
theorem fail_l2 {us : List S32} {br : List ByteArray} (hu : us.length ≤ 100) (n : Int) (i : Nat) (hi : i < us.length) (o : List ByteArray) (ho : o.length ≤ 100) (u : S32) (h2 : u.f2.length ≤ 20) (R : List ByteArray) (d : Nat) : ∀ (j : Nat) (bad : Bool), j + d = u.f2.length →
    Ev (fun k => spec_Failing.l1 k us br (if (bad || (u.f2.drop j).any (fun m => !hasU us m || decide (m ∈ o))) = true then insB u.f0 o else o) n ((i + 1 : Nat) : Int)) R →
    Ev (fun k => spec_Failing.l2 k us br o n (i : Int) bad (j : Int) u.f0 u.f1 u.f2 u.f3 u.f4) R := by
  induction d with
  | zero =>
    intro j bad hj h
    have hw : wrap64 ((i : Int) + 1) = ((i + 1 : Nat) : Int) := by rw [wrap_id (by omega) (by omega)]; omega
    rw [List.drop_eq_nil_of_le (by omega), List.any_nil, Bool.or_false] at h
    cases bad with
    | true =>
      rw [if_pos rfl] at h
      exact Ev.step (fun k => by rw [spec_Failing.l2, if_neg (by omega), if_pos rfl, hw]) (Ev.bind (l3Add_ev o u.f0 (by omega)) h)
    | false =>
      rw [if_neg (by decide)] at h
      exact Ev.step (fun k => by rw [spec_Failing.l2, if_neg (by omega), if_neg (by decide), hw]) h
  | succ d ih =>
    intro j bad hj h
    have hjl : j < u.f2.length := by omega
    have hw : wrap64 ((j : Int) + 1) = ((j + 1 : Nat) : Int) := by rw [wrap_id (by omega) (by omega)]; omega
    rw [List.drop_eq_getElem_cons hjl, List.any_cons] at h
    cases bad with
    | true =>
      refine Ev.step (fun k => by rw [spec_Failing.l2, if_pos (by omega), if_pos rfl, hw]) (ih (j + 1) true (by omega) ?_)
      simpa using h
    | false =>
      refine Ev.step (fun k => by rw [spec_Failing.l2, if_pos (by omega), if_neg (by decide), if_pos (by omega), hw, rdOf_nat _ _ j hjl]) (Ev.bind (l3Has_ev o u.f2[j] (by omega)) ?_)
      by_cases hm : u.f2[j] ∈ o
      · rw [decide_eq_true hm]
        refine Ev.congr (fun k => if_pos rfl) (ih (j + 1) true (by omega) ?_)
        simpa [hm] using h
      · rw [decide_eq_false hm]
        refine Ev.congr (fun k => if_neg (by decide)) (Ev.bind (l18Find_ev us u.f2[j] (by omega)) (ih (j + 1) _ (by omega) ?_))
        rw [findU_lt]
        simpa [hm] using h
theorem fail_l1 {us : List S32} {br : List ByteArray} (hu : us.length ≤ 100) (hbr : br.length ≤ 9223372036854775807) (hgood : ∀ u ∈ us, u.f2.length ≤ 20) (n : Int) (R : List ByteArray) (d : Nat) : ∀ (i : Nat) (o : List ByteArray), i + d = us.length → OkO us br o →
    Ev (fun k => spec_Failing.l0 k us br ((us.drop i).foldl (stepO us br) o) (wrap64 (n + 1))) R → Ev (fun k => spec_Failing.l1 k us br o n (i : Int)) R := by
  induction d with
  | zero =>
    intro i o hi ho h
    rw [List.drop_eq_nil_of_le (by omega), List.foldl_nil] at h
    exact Ev.step (fun k => by rw [spec_Failing.l1, if_neg (by omega)]) h
  | succ d ih =>
    intro i o hi ho h
    have hil : i < us.length := by omega
    rw [List.drop_eq_getElem_cons hil, List.foldl_cons] at h
    have hmem : us[i] ∈ us := List.getElem_mem hil
    have hol := ho.len
    have hn := ih (i + 1) _ (by omega) (ho.step hmem) h
    refine Ev.step (fun k => by rw [spec_Failing.l1, if_pos (by omega), if_pos (by omega), rd_T32_nat us i hil]) (Ev.bind (l3Has_ev br us[i].f0 hbr) ?_)
    refine fail_l2 hu n i hil o (by omega) us[i] (hgood _ hmem) R us[i].f2.length 0 _ (by omega) ?_
    rw [List.drop_zero]
    exact hn
theorem fail_l0 {us : List S32} {br : List ByteArray} (hu : us.length ≤ 100) (hbr : br.length ≤ 9223372036854775807) (hgood : ∀ u ∈ us, u.f2.length ≤ 20) (d : Nat) : ∀ (n : Nat) (o : List ByteArray), n + d = us.length + 1 → OkO us br o → Ev (fun k => spec_Failing.l0 k us br o (n : Int)) (iterO us br d o) := by
  induction d with
  | zero =>
    intro n o hn ho
    exact Ev.step (f := fun _ => some o) (fun k => by rw [spec_Failing.l0, if_neg (by omega)]) (Ev.now _)
  | succ d ih =>
    intro n o hn ho
    have hw : wrap64 ((n : Int) + 1) = ((n + 1 : Nat) : Int) := by rw [wrap_id (by omega) (by omega)]; omega
    refine Ev.step (fun k => by rw [spec_Failing.l0, if_pos (by omega)]; rfl) (fail_l1 hu hbr hgood (n : Int) _ us.length 0 o (by omega) ho ?_)
    rw [List.drop_zero, hw]
    exact ih (n + 1) _ (by omega) (OkO.fold us o (fun _ hu => hu) ho)
theorem specFailing_ev (us : List S32) (br : List ByteArray) (hbr : br.length ≤ 9223372036854775807) : Ev (fun k => spec_Failing.f k us br) (if unitsOkB us && decide (br.length ≤ 2000) then canonL (failL us br) else []) := by
  cases hok : unitsOkB us with
  | false =>
    refine Ev.congr (fun k => ?_) (Ev.step (g := fun k => spec_Failing.j0 k us br [] true) (f := fun _ => some []) (fun k => by rw [spec_Failing.j0, if_pos rfl]) (Ev.now _))
    simp [spec_Failing.f, spec_UnitsOk.f, hok]
  | true =>
    have hg := good_of_ok hok
    have hgood : ∀ u ∈ us, u.f2.length ≤ 20 := fun u h => by
      have := hg.unit u h
      unfold unitB at this
      simp only [Bool.and_eq_true, decide_eq_true_eq] at this
      exact this.1.1.1.2
    by_cases hl : br.length ≤ 2000
    · rw [decide_eq_true hl]
      refine Ev.congr (f := fun k => spec_Failing.j0 k us br [] false) (fun k => ?_) (Ev.step (fun k => by rw [spec_Failing.j0, if_neg (by decide)]) ?_)
      · rw [spec_Failing.f]
        simp only [Option.bind_some, spec_UnitsOk.f, hok, if_true]
        rw [decide_eq_false (by omega)]
      · have := fail_l0 hg.len hbr hgood (us.length + 1) 0 [] (by omega) ⟨List.Pairwise.nil, fun x hx => by cases hx⟩
        rw [iter_is] at this
        exact this
    · rw [decide_eq_false hl]
      refine Ev.congr (f := fun k => spec_Failing.j0 k us br [] true) (fun k => ?_) (Ev.step (f := fun _ => some []) (fun k => by rw [spec_Failing.j0, if_pos rfl]) (Ev.now _))
      rw [spec_Failing.f]
      simp only [Option.bind_some, spec_UnitsOk.f, hok, if_true]
      rw [decide_eq_true (by omega)]
end Go.Proofs.Ytnjmhlhlmokjnaa.G
namespace Go.Proofs.Ytnjmhlhlmokjnaa.G
open Go.RowKit Go.Proofs.YtnjmhlhlmokjnaaW.PrintWords Go.Proofs.YtnjmhlhlmokjnaaW.PrintLast Go.Proofs.YtnjmhlhlmokjnaaW.PrintMore
set_option linter.unusedVariables false
set_option linter.unusedSimpArgs false
set_option maxHeartbeats 8000000 in
set_option maxRecDepth 100000 in
theorem laws_FnExactFailing_walk (A0 : Option Addr) (c0 : Nat) (l0 : List S70) (A1 : Option Addr) (c1 : Nat) (l1 : List ByteArray) (w : World) (hr0 : Kd.C k70 w A0 l0.length l0) (hc0 : l0.length ≤ c0) (hz0 : ∀ u ∈ l0, unitRaw u) (hr1 : Kd.C Kd.string w A1 l1.length l1) (hc1 : l1.length ≤ c1) (hz1 : ∀ s ∈ l1, s.size ≤ 9223372036854775807) :
    Calls Try.prog 4 #[.slice A0 l0.length c0, .slice A1 l1.length c1] w fun e w' => e = .returned (.bool true) ∧ Below w.heap.size w w' := by
  have hn0 : l0.length ≤ 9223372036854775807 := hr0.2.1
  have HR0 := Aside0.mk hr0
  have HC0 := Aside0.mk hc0
  clear hr0 hc0
  have hn1 : l1.length ≤ 9223372036854775807 := hr1.2.1
  have HR1 := Aside0.mk hr1
  have HC1 := Aside0.mk hc1
  clear hr1 hc1
  obtain ⟨q0, E0, m0, b0⟩ := szus_ev l0 hn0 hz0 1048576 (by omega) (by omega)
  have HE0 := Aside0.mk E0
  clear E0
  by_cases hq0 : q0 < 0
  · have hd0 : decide (q0 < 0) = true := decide_eq_true hq0
    clear b0 m0 hz0 hn0 hz1 hn1
    have HB := Aside0.mk (Below.refl w.heap.size w)
    go_enter Try.func4, Try.ntmps4
    go_wp2_with fail
    refine (szU_c HE0.out (Kd.C_below HR0.out HB.out) HC0.out).mono ?_
    rintro e w1 ⟨rfl, hb⟩
    replace HB := Aside0.mk (below_then HB.out HB.out.size hb)
    have HS0 := Aside0.mk (hb.size)
    clear hb
    go_wp2_with fail
    go_ret
    exact ⟨rfl, HB.out⟩
  obtain ⟨q1, E1, m1, b1⟩ := szs_ev l1 hn1 hz1 q0 (by omega) (by omega)
  have HE1 := Aside0.mk E1
  clear E1
  by_cases hq1 : q1 < 0
  · have hd1 : decide (q1 < 0) = true := decide_eq_true hq1
    have hd0 : decide (q0 < 0) = false := decide_eq_false hq0
    clear b0 m0 b1 m1 hz0 hn0 hz1 hn1
    have HB := Aside0.mk (Below.refl w.heap.size w)
    go_enter Try.func4, Try.ntmps4
    go_wp2_with fail
    refine (szU_c HE0.out (Kd.C_below HR0.out HB.out) HC0.out).mono ?_
    rintro e w1 ⟨rfl, hb⟩
    replace HB := Aside0.mk (below_then HB.out HB.out.size hb)
    have HS0 := Aside0.mk (hb.size)
    clear hb
    go_wp2_with fail
    refine (szS_c HE1.out (Kd.C_below HR1.out HB.out) HC1.out).mono ?_
    rintro e w2 ⟨rfl, hb⟩
    replace HB := Aside0.mk (below_then HB.out HB.out.size hb)
    have HS1 := Aside0.mk (hb.size)
    clear hb
    go_wp2_with fail
    go_ret
    exact ⟨rfl, HB.out⟩
  have hd0 : decide (q0 < 0) = false := decide_eq_false hq0
  have hd1 : decide (q1 < 0) = false := decide_eq_false hq1
  have HU0 := Aside0.mk (lenOk_conv (l := l0) (by have := b0 (by omega); omega))
  have hl0 : l0.length ≤ 1048576 := by have := b0 (by omega); omega
  have hv0 : 0 ≤ q0 := by omega
  have hl1 : l1.length ≤ 1048576 := by have := b1 (by omega); omega
  have hv1 : 0 ≤ q1 := by omega
  obtain ⟨us0, hus0⟩ : ∃ us, us = l0.map conv := ⟨_, rfl⟩
  rw [← hus0] at HU0
  have hlc0 : us0.length ≤ 1048576 := by rw [hus0, List.length_map]; exact hl0
  have HUS0 := Aside0.mk hus0
  clear hus0
  clear b0 hq0 hz0 hn0 m0 b1 hq1 hz1 hn1 m1
  obtain ⟨ans, ha⟩ : ∃ a, a = (if unitsOkB (us0) && decide (l1.length ≤ 2000) then canonL (failL (us0) l1) else []) := ⟨_, rfl⟩
  obtain ⟨kS, hS⟩ := (specFailing_ev (us0) l1 (by omega)).rounds
  rw [← ha] at hS
  have HSP := Aside0.mk hS
  have HIM : Aside0 (impl_Failing.f (us0) l1 = some ans) := ⟨by unfold impl_Failing.f; rw [ha]⟩
  have hans : ans.length ≤ 1048576 := by
    rw [ha]
    split
    · exact Nat.le_trans (nodup_sub_len (asc_nodup (asc_canonL _)) (fun x hx => of_decide_eq_true (failL_has x ((mem_canonL x _).1 hx)))) (by unfold namesU; rw [List.length_map]; exact hlc0)
    · exact Nat.zero_le _
  clear ha hS
  have HB := Aside0.mk (Below.refl w.heap.size w)
  go_enter Try.func4, Try.ntmps4
  go_wp2_with fail
  refine (szU_c HE0.out (Kd.C_below HR0.out HB.out) HC0.out).mono ?_
  rintro e w1 ⟨rfl, hb⟩
  replace HB := Aside0.mk (below_then HB.out HB.out.size hb)
  have HS0 := Aside0.mk (hb.size)
  clear hb
  go_wp2_with fail
  refine (szS_c HE1.out (Kd.C_below HR1.out HB.out) HC1.out).mono ?_
  rintro e w2 ⟨rfl, hb⟩
  replace HB := Aside0.mk (below_then HB.out HB.out.size hb)
  have HS1 := Aside0.mk (hb.size)
  clear hb
  go_wp2_with fail
  refine (toU_c HUS0.out hl0 HU0.out (Kd.C_below HR0.out HB.out) HC0.out HB.out.size).mono ?_
  rintro e w3 ⟨At0, ct0, rfl, ho, hb⟩
  replace HB := Aside0.mk (below_then HB.out HB.out.size hb)
  have HS2 := Aside0.mk (hb.size)
  clear hb
  have Ht0 := Aside0.mk ho
  clear ho
  go_wp2_with fail
  refine (toS_c hl1 (Kd.C_below HR1.out HB.out) HC1.out HB.out.size).mono ?_
  rintro e w4 ⟨At1, ct1, rfl, ho, hb⟩
  replace Ht0 := Aside0.mk (Kd.R_below Ht0.out hb)
  replace HB := Aside0.mk (below_then HB.out HB.out.size hb)
  have HS3 := Aside0.mk (hb.size)
  clear hb
  have Ht1 := Aside0.mk ho
  clear ho
  go_wp2_with fail
  refine (spec_Failing.calls kS _ _ _ _ _ _ ans _ (Kd.R_reads' Ht0.out).2.2 (Kd.R_reads' Ht0.out).2.1 (Kd.R_reads' Ht1.out).2.2 (Kd.R_reads' Ht1.out).2.1 HSP.out).mono ?_
  rintro e w5 ⟨vwa, rfl, ho, hb⟩
  obtain ⟨Awa, cwa, rfl⟩ := Kd.R_slice ho
  replace ho := R_span ho HB.out.size
  replace Ht0 := Aside0.mk (Kd.R_below Ht0.out hb)
  replace Ht1 := Aside0.mk (Kd.R_below Ht1.out hb)
  replace HB := Aside0.mk (below_then HB.out HB.out.size hb)
  have HS4 := Aside0.mk (hb.size)
  clear hb
  have Hwa := Aside0.mk ho
  clear ho
  clear Ht0
  clear Ht1
  go_wp2_with fail
  refine (toU_c HUS0.out hl0 HU0.out (Kd.C_below HR0.out HB.out) HC0.out HB.out.size).mono ?_
  rintro e w6 ⟨Ax0, cx0, rfl, ho, hb⟩
  replace Hwa := Aside0.mk (Kd.R_below Hwa.out hb)
  replace HB := Aside0.mk (below_then HB.out HB.out.size hb)
  have HS5 := Aside0.mk (hb.size)
  clear hb
  have Hx0 := Aside0.mk ho
  clear ho
  go_wp2_with fail
  refine (toS_c hl1 (Kd.C_below HR1.out HB.out) HC1.out HB.out.size).mono ?_
  rintro e w7 ⟨Ax1, cx1, rfl, ho, hb⟩
  replace Hwa := Aside0.mk (Kd.R_below Hwa.out hb)
  replace Hx0 := Aside0.mk (Kd.R_below Hx0.out hb)
  replace HB := Aside0.mk (below_then HB.out HB.out.size hb)
  have HS6 := Aside0.mk (hb.size)
  clear hb
  have Hx1 := Aside0.mk ho
  clear ho
  go_wp2_with fail
  refine (impl_Failing.calls _ _ _ _ _ _ ans _ (Kd.R_reads' Hx0.out).2.2 (Kd.R_reads' Hx0.out).2.1 (Kd.R_reads' Hx1.out).2.2 (Kd.R_reads' Hx1.out).2.1 HIM.out).mono ?_
  rintro e w8 ⟨vga, rfl, ho, hb⟩
  obtain ⟨Aga, cga, rfl⟩ := Kd.R_slice ho
  replace ho := R_span ho HB.out.size
  replace Hwa := Aside0.mk (Kd.R_below Hwa.out hb)
  replace Hx0 := Aside0.mk (Kd.R_below Hx0.out hb)
  replace Hx1 := Aside0.mk (Kd.R_below Hx1.out hb)
  replace HB := Aside0.mk (below_then HB.out HB.out.size hb)
  have HS7 := Aside0.mk (hb.size)
  clear hb
  have Hga := Aside0.mk ho
  clear ho
  go_wp2_with fail
  refine (eqS_c (Kd.R_reads' Hga.out).2.2 (Kd.R_reads' Hga.out).2.1 (Kd.R_reads' Hwa.out).2.2 (Kd.R_reads' Hwa.out).2.1).mono ?_
  rintro e w9 ⟨rfl, hb⟩
  replace hb := drawn_b hb
  replace Hwa := Aside0.mk (Kd.R_below Hwa.out hb)
  replace Hx0 := Aside0.mk (Kd.R_below Hx0.out hb)
  replace Hx1 := Aside0.mk (Kd.R_below Hx1.out hb)
  replace Hga := Aside0.mk (Kd.R_below Hga.out hb)
  replace HB := Aside0.mk (below_then HB.out HB.out.size hb)
  have HS8 := Aside0.mk (hb.size)
  clear hb
  go_wp2_with fail
  refine (toU_c HUS0.out hl0 HU0.out (Kd.C_below HR0.out HB.out) HC0.out HB.out.size).mono ?_
  rintro e w10 ⟨At0, ct0, rfl, ho, hb⟩
  replace Hwa := Aside0.mk (Kd.R_below Hwa.out hb)
  replace Hx0 := Aside0.mk (Kd.R_below Hx0.out hb)
  replace Hx1 := Aside0.mk (Kd.R_below Hx1.out hb)
  replace Hga := Aside0.mk (Kd.R_below Hga.out hb)
  replace HB := Aside0.mk (below_then HB.out HB.out.size hb)
  have HS9 := Aside0.mk (hb.size)
  clear hb
  have Ht0 := Aside0.mk ho
  clear ho
  go_wp2_with fail
  refine (eqU_c hlc0 HU0.out (Kd.R_reads' Hx0.out).2.2 (Kd.R_reads' Hx0.out).2.1 (Kd.R_reads' Ht0.out).2.2 (Kd.R_reads' Ht0.out).2.1).mono ?_
  rintro e w11 ⟨rfl, hb⟩
  replace Hwa := Aside0.mk (Kd.R_below Hwa.out hb)
  replace Hx0 := Aside0.mk (Kd.R_below Hx0.out hb)
  replace Hx1 := Aside0.mk (Kd.R_below Hx1.out hb)
  replace Hga := Aside0.mk (Kd.R_below Hga.out hb)
  replace Ht0 := Aside0.mk (Kd.R_below Ht0.out hb)
  replace HB := Aside0.mk (below_then HB.out HB.out.size hb)
  have HS10 := Aside0.mk (hb.size)
  clear hb
  clear Ht0
  go_wp2_with fail
  refine (toS_c hl1 (Kd.C_below HR1.out HB.out) HC1.out HB.out.size).mono ?_
  rintro e w12 ⟨At1, ct1, rfl, ho, hb⟩
  replace Hwa := Aside0.mk (Kd.R_below Hwa.out hb)
  replace Hx0 := Aside0.mk (Kd.R_below Hx0.out hb)
  replace Hx1 := Aside0.mk (Kd.R_below Hx1.out hb)
  replace Hga := Aside0.mk (Kd.R_below Hga.out hb)
  replace HB := Aside0.mk (below_then HB.out HB.out.size hb)
  have HS11 := Aside0.mk (hb.size)
  clear hb
  have Ht1 := Aside0.mk ho
  clear ho
  go_wp2_with fail
  refine (eqS_c (Kd.R_reads' Hx1.out).2.2 (Kd.R_reads' Hx1.out).2.1 (Kd.R_reads' Ht1.out).2.2 (Kd.R_reads' Ht1.out).2.1).mono ?_
  rintro e w13 ⟨rfl, hb⟩
  replace hb := drawn_b hb
  replace Hwa := Aside0.mk (Kd.R_below Hwa.out hb)
  replace Hx0 := Aside0.mk (Kd.R_below Hx0.out hb)
  replace Hx1 := Aside0.mk (Kd.R_below Hx1.out hb)
  replace Hga := Aside0.mk (Kd.R_below Hga.out hb)
  replace Ht1 := Aside0.mk (Kd.R_below Ht1.out hb)
  replace HB := Aside0.mk (below_then HB.out HB.out.size hb)
  have HS12 := Aside0.mk (hb.size)
  clear hb
  clear Ht1
  go_wp2_with fail
  refine (markUnits_c _ _ 1 _ _ _ Hx0.out hlc0 HU0.out (by omega) (by omega)).mono ?_
  rintro e w14 ⟨⟨k0, rfl, hk0, hkb0⟩, hm⟩
  replace Hwa := Aside0.mk (R_other Hwa.out hm.other (fun k hk hk' => by have hx_ := hk'; have := HS0.out; have := HS1.out; have := HS2.out; have := HS3.out; have := HS4.out; have := HS5.out; have := HS6.out; have := HS7.out; have := HS8.out; have := HS9.out; have := HS10.out; have := HS11.out; have := HS12.out; omega))
  replace Hx1 := Aside0.mk (R_other Hx1.out hm.other (fun k hk hk' => by have hx_ := hk'; have := HS0.out; have := HS1.out; have := HS2.out; have := HS3.out; have := HS4.out; have := HS5.out; have := HS6.out; have := HS7.out; have := HS8.out; have := HS9.out; have := HS10.out; have := HS11.out; have := HS12.out; omega))
  replace Hga := Aside0.mk (R_other Hga.out hm.other (fun k hk hk' => by have hx_ := hk'; have := HS0.out; have := HS1.out; have := HS2.out; have := HS3.out; have := HS4.out; have := HS5.out; have := HS6.out; have := HS7.out; have := HS8.out; have := HS9.out; have := HS10.out; have := HS11.out; have := HS12.out; omega))
  replace HB := Aside0.mk (hm.to_below HB.out HB.out.size (fun k hk => by have := HS0.out; have := HS1.out; have := HS2.out; have := HS3.out; have := HS4.out; have := HS5.out; have := HS6.out; have := HS7.out; have := HS8.out; have := HS9.out; have := HS10.out; have := HS11.out; have := HS12.out; omega))
  have HS13 := Aside0.mk (hm.size)
  clear hm
  clear Hx0
  go_wp2_with fail
  refine (markS_c k0 HB.out Hx1.out hl1 (by omega) (by omega)).mono ?_
  rintro e w15 ⟨rfl, ⟨_, _, _⟩, hb, hm⟩
  replace Hwa := Aside0.mk (R_other Hwa.out hm.2 (fun k hk hk' => by have hx_ := Hx1.out.1 k hk'.symm; have := HS0.out; have := HS1.out; have := HS2.out; have := HS3.out; have := HS4.out; have := HS5.out; have := HS6.out; have := HS7.out; have := HS8.out; have := HS9.out; have := HS10.out; have := HS11.out; have := HS12.out; have := HS13.out; omega))
  replace Hga := Aside0.mk (R_other Hga.out hm.2 (fun k hk hk' => by have hx_ := Hx1.out.1 k hk'.symm; have := HS0.out; have := HS1.out; have := HS2.out; have := HS3.out; have := HS4.out; have := HS5.out; have := HS6.out; have := HS7.out; have := HS8.out; have := HS9.out; have := HS10.out; have := HS11.out; have := HS12.out; have := HS13.out; omega))
  replace HB := Aside0.mk hb
  have HS14 := Aside0.mk (hm.1)
  clear hm hb
  clear Hx1
  go_wp2_with fail
  refine (eqS_c (Kd.R_reads' Hga.out).2.2 (Kd.R_reads' Hga.out).2.1 (Kd.R_reads' Hwa.out).2.2 (Kd.R_reads' Hwa.out).2.1).mono ?_
  rintro e w16 ⟨rfl, hb⟩
  replace hb := drawn_b hb
  replace Hwa := Aside0.mk (Kd.R_below Hwa.out hb)
  replace Hga := Aside0.mk (Kd.R_below Hga.out hb)
  replace HB := Aside0.mk (below_then HB.out HB.out.size hb)
  have HS15 := Aside0.mk (hb.size)
  clear hb
  go_wp2_with fail
  refine (markS_c 1 HB.out Hga.out hans (by omega) (by omega)).mono ?_
  rintro e w17 ⟨rfl, ⟨gm, hmk, ho⟩, hb, hm⟩
  replace Hwa := Aside0.mk (R_other Hwa.out hm.2 (fun k hk hk' => by have hx_ := Hga.out.1 k hk'.symm; have := HS0.out; have := HS1.out; have := HS2.out; have := HS3.out; have := HS4.out; have := HS5.out; have := HS6.out; have := HS7.out; have := HS8.out; have := HS9.out; have := HS10.out; have := HS11.out; have := HS12.out; have := HS13.out; have := HS14.out; have := HS15.out; omega))
  replace HB := Aside0.mk hb
  have HS16 := Aside0.mk (hm.1)
  have HMK := Aside0.mk hmk
  replace Hga := Aside0.mk ho
  clear hm hb ho hmk
  go_wp2_with fail
  refine (held_c 1 HMK.out hans (by omega) (by omega) Hga.out rfl).mono ?_
  rintro e w18 ⟨rfl, hb⟩
  replace Hwa := Aside0.mk (Kd.R_below Hwa.out hb)
  replace Hga := Aside0.mk (Kd.R_below Hga.out hb)
  replace HB := Aside0.mk (below_then HB.out HB.out.size hb)
  have HS17 := Aside0.mk (hb.size)
  clear hb
  go_wp2_with fail
  refine (toU_c HUS0.out hl0 HU0.out (Kd.C_below HR0.out HB.out) HC0.out HB.out.size).mono ?_
  rintro e w19 ⟨At0, ct0, rfl, ho, hb⟩
  replace Hwa := Aside0.mk (Kd.R_below Hwa.out hb)
  replace Hga := Aside0.mk (Kd.R_below Hga.out hb)
  replace HB := Aside0.mk (below_then HB.out HB.out.size hb)
  have HS18 := Aside0.mk (hb.size)
  clear hb
  have Ht0 := Aside0.mk ho
  clear ho
  go_wp2_with fail
  refine (toS_c hl1 (Kd.C_below HR1.out HB.out) HC1.out HB.out.size).mono ?_
  rintro e w20 ⟨At1, ct1, rfl, ho, hb⟩
  replace Hwa := Aside0.mk (Kd.R_below Hwa.out hb)
  replace Hga := Aside0.mk (Kd.R_below Hga.out hb)
  replace Ht0 := Aside0.mk (Kd.R_below Ht0.out hb)
  replace HB := Aside0.mk (below_then HB.out HB.out.size hb)
  have HS19 := Aside0.mk (hb.size)
  clear hb
  have Ht1 := Aside0.mk ho
  clear ho
  go_wp2_with fail
  refine (impl_Failing.calls _ _ _ _ _ _ ans _ (Kd.R_reads' Ht0.out).2.2 (Kd.R_reads' Ht0.out).2.1 (Kd.R_reads' Ht1.out).2.2 (Kd.R_reads' Ht1.out).2.1 HIM.out).mono ?_
  rintro e w21 ⟨vha, rfl, ho, hb⟩
  obtain ⟨Aha, cha, rfl⟩ := Kd.R_slice ho
  replace ho := R_span ho HB.out.size
  replace Hwa := Aside0.mk (Kd.R_below Hwa.out hb)
  replace Hga := Aside0.mk (Kd.R_below Hga.out hb)
  replace Ht0 := Aside0.mk (Kd.R_below Ht0.out hb)
  replace Ht1 := Aside0.mk (Kd.R_below Ht1.out hb)
  replace HB := Aside0.mk (below_then HB.out HB.out.size hb)
  have HS20 := Aside0.mk (hb.size)
  clear hb
  have Hha := Aside0.mk ho
  clear ho
  clear Ht0
  clear Ht1
  go_wp2_with fail
  refine (eqS_c (Kd.R_reads' Hha.out).2.2 (Kd.R_reads' Hha.out).2.1 (Kd.R_reads' Hwa.out).2.2 (Kd.R_reads' Hwa.out).2.1).mono ?_
  rintro e w22 ⟨rfl, hb⟩
  replace hb := drawn_b hb
  replace Hwa := Aside0.mk (Kd.R_below Hwa.out hb)
  replace Hga := Aside0.mk (Kd.R_below Hga.out hb)
  replace Hha := Aside0.mk (Kd.R_below Hha.out hb)
  replace HB := Aside0.mk (below_then HB.out HB.out.size hb)
  have HS21 := Aside0.mk (hb.size)
  clear hb
  go_wp2_with fail
  refine (held_c 1 HMK.out hans (by omega) (by omega) Hga.out rfl).mono ?_
  rintro e w23 ⟨rfl, hb⟩
  replace Hwa := Aside0.mk (Kd.R_below Hwa.out hb)
  replace Hga := Aside0.mk (Kd.R_below Hga.out hb)
  replace Hha := Aside0.mk (Kd.R_below Hha.out hb)
  replace HB := Aside0.mk (below_then HB.out HB.out.size hb)
  have HS22 := Aside0.mk (hb.size)
  clear hb
  go_wp2_with fail
  go_ret
  exact ⟨rfl, HB.out⟩
end Go.Proofs.Ytnjmhlhlmokjnaa.G
