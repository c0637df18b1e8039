/-
  Part 3 of the texts of this claim: GSpecL1Below, GSpecL1Once, GSpecL2Int, XDraw0.
-/
import Derived.Test.YtnjmhlhlmokjnaaFail2
namespace Go.Proofs.Ytnjmhlhlmokjnaa.G
open Go.RowKit Go.Proofs.YtnjmhlhlmokjnaaW.PrintWords Go.Proofs.YtnjmhlhlmokjnaaW.PrintLast Go.Proofs.YtnjmhlhlmokjnaaW.PrintMore
attribute [local go_sem] max2_int min2_int max_two min_two max_three min_three max_four min_four
set_option linter.unusedVariables false
set_option linter.unusedSimpArgs false
def spec_l1Below.f (s0_0 : List Int) (s0_1 : Int) (s0_2 : Int) (a1 : Int) : Option (Int × Int × Int) := if a1 ≤ 0 then (some (0, s0_1, s0_2)) else (if a1 ≤ 256 then ((spec_l1Byte.f s0_0 s0_1 s0_2).bind fun bt104 => (if a1 = 0 then (none) else (some (Int.tmod bt104.1 a1, bt104.2.1, bt104.2.2)))) else ((spec_l1Byte.f s0_0 s0_1 s0_2).bind fun bt107 => ((spec_l1Byte.f s0_0 bt107.2.1 bt107.2.2).bind fun bt110 => ((spec_l1Byte.f s0_0 bt110.2.1 bt110.2.2).bind fun bt113 => ((spec_l1Byte.f s0_0 bt113.2.1 bt113.2.2).bind fun bt116 => (if a1 = 0 then (none) else (some (Int.tmod (wrap64 ((wrap64 ((wrap64 ((wrap64 (bt107.1 * 16777216)) + (wrap64 (bt110.1 * 65536)))) + (wrap64 (bt113.1 * 256)))) + bt116.1)) a1, bt116.2.1, bt116.2.2))))))))
set_option maxHeartbeats 8000000 in
set_option maxRecDepth 100000 in
theorem spec_l1Below.calls (g : Nat) (s0_0 : List Int) (s0_1 : Int) (s0_2 : Int) (a1 : Int) (r1 : Int) (r2 : Int) (r3 : Int) (w0 w : World) (hI : IsS84 w0 w g s0_0 s0_1 s0_2) (hB : Below w0.heap.size w0 w) (h : spec_l1Below.f s0_0 s0_1 s0_2 a1 = some (r1, r2, r3)) :
    Calls Try.prog 61 #[.pointer (some ⟨g, 0, none⟩), .int .i64 a1] w fun e w' => e = .returned (.int .i64 r1) ∧ IsS84 w0 w' g s0_0 r2 r3 ∧ Below w0.heap.size w0 w' ∧ KeepBut w w' g none := by
  have HI0 := Aside0.mk hI
  have HK := Aside0.mk (KeepBut.refl w g none)
  have HL := Aside0.mk hB.size
  clear hI
  have HW0 := Aside0.mk hB.size
  have HB := Aside0.mk hB
  clear hB
  have H : (if a1 ≤ 0 then (some (0, s0_1, s0_2)) else (if a1 ≤ 256 then ((spec_l1Byte.f s0_0 s0_1 s0_2).bind fun bt104 => (if a1 = 0 then (none) else (some (Int.tmod bt104.1 a1, bt104.2.1, bt104.2.2)))) else ((spec_l1Byte.f s0_0 s0_1 s0_2).bind fun bt107 => ((spec_l1Byte.f s0_0 bt107.2.1 bt107.2.2).bind fun bt110 => ((spec_l1Byte.f s0_0 bt110.2.1 bt110.2.2).bind fun bt113 => ((spec_l1Byte.f s0_0 bt113.2.1 bt113.2.2).bind fun bt116 => (if a1 = 0 then (none) else (some (Int.tmod (wrap64 ((wrap64 ((wrap64 ((wrap64 (bt107.1 * 16777216)) + (wrap64 (bt110.1 * 65536)))) + (wrap64 (bt113.1 * 256)))) + bt116.1)) a1, bt116.2.1, bt116.2.2))))))))) = some (r1, r2, r3) := h
  clear h
  by_cases c3 : a1 ≤ 0
  · rw [if_pos c3] at H
    have c3b0 : decide (a1 ≤ 0) = true := decide_eq_true c3
    clear c3
    simp only [Option.some.injEq, Prod.mk.injEq] at H
    obtain ⟨rfl, rfl, rfl⟩ := H
    go_enter Try.func61, Try.ntmps61
    go_wp2
    go_ret
    exact ⟨by first | rfl | (simp [errW_none, errW_some] <;> rfl) | (simp [*, errW_none, errW_some] <;> rfl), by repeat (first | (with_reducible first | exact HI0.out | apply IsS84.alloc | apply IsS84.drewN | apply IsS84.drew | apply IsS84.set_1 | apply IsS84.set_2) | exact HI0.out), by repeat (first | (with_reducible first | exact HB.out | apply below_alloc | apply pw_below_drewN | apply below_drew1 | refine below_set ?_ (IsS84.ge HI0.out)) | exact HB.out), by repeat (first | (with_reducible first | exact HK.out | apply KeepBut.set_ | apply keep_drewN | apply keep_drew | apply keep_alloc) | exact HK.out)⟩
  · rw [if_neg c3] at H
    have c3b0 : decide (a1 ≤ 0) = false := decide_eq_false c3
    clear c3
    by_cases c4 : a1 ≤ 256
    · rw [if_pos c4] at H
      have c4b0 : decide (a1 ≤ 256) = true := decide_eq_true c4
      clear c4
      replace H := Option.bind_eq_some_iff.mp H
      obtain ⟨⟨t104, t105, t106⟩, A50, H⟩ := H
      replace H : (if a1 = 0 then (none) else (some (Int.tmod t104 a1, t105, t106))) = some (r1, r2, r3) := H
      have A5 := Aside0.mk A50
      clear A50
      by_cases c6 : a1 = 0
      · rw [if_pos c6] at H
        exact absurd H (by simp)
      · rw [if_neg c6] at H
        have c6b0 : (a1 == 0) = false := beq_eq_false_iff_ne.mpr c6
        have c6b1 : (a1 != 0) = true := bne_iff_ne.mpr c6
        simp only [Option.some.injEq, Prod.mk.injEq] at H
        obtain ⟨rfl, rfl, rfl⟩ := H
        go_enter Try.func61, Try.ntmps61
        go_wp2_with (first | ((with_reducible refine gate_callee (f := 76) rfl ?_); refine goesL_ (some 14) rfl rfl Try.func76 (by kernel_rfl) rfl #[.pointer (some ⟨g, 0, none⟩)] rfl (by (try simp only [List.map_toArray, List.map_cons, List.map_nil]); first | done | rfl | (simp only [List.length_drop, List.length_take]; rfl)) ?_; (with_reducible refine (spec_l1Byte.calls g s0_0 s0_1 s0_2 t104 t105 t106 w0 _ ?side1 ?side2 A5.out).mono ?_); (case side1 => repeat (first | (with_reducible first | exact HI0.out | apply IsS84.alloc | apply IsS84.drewN | apply IsS84.drew | apply IsS84.set_1 | apply IsS84.set_2) | exact HI0.out)); (case side2 => repeat (first | (with_reducible first | exact HB.out | apply below_alloc | apply pw_below_drewN | apply below_drew1 | refine below_set ?_ (IsS84.ge HI0.out)) | exact HB.out)); rintro e w7 ⟨rfl, hi, hb, hk⟩; refine ⟨_, rfl, ?_⟩; have n0_ := Aside0.mk (KeepBut.trans (by repeat (first | (with_reducible first | exact HK.out | apply KeepBut.set_ | apply keep_drewN | apply keep_drew | apply keep_alloc) | exact HK.out)) hk (.inl rfl)); have n1_ := Aside0.mk (hb); have n2_ := Aside0.mk (hi); clear HK; clear HB; clear HI0; have HK := n0_; have HB := n1_; have HI0 := n2_; clear n0_ n1_ n2_; (try clear hb); (try clear hb2); (try clear hk); (try clear hi)))
        go_ret
        exact ⟨by first | rfl | (simp [errW_none, errW_some] <;> rfl) | (simp [*, errW_none, errW_some] <;> rfl), by repeat (first | (with_reducible first | exact HI0.out | apply IsS84.alloc | apply IsS84.drewN | apply IsS84.drew | apply IsS84.set_1 | apply IsS84.set_2) | exact HI0.out), by repeat (first | (with_reducible first | exact HB.out | apply below_alloc | apply pw_below_drewN | apply below_drew1 | refine below_set ?_ (IsS84.ge HI0.out)) | exact HB.out), by repeat (first | (with_reducible first | exact HK.out | apply KeepBut.set_ | apply keep_drewN | apply keep_drew | apply keep_alloc) | exact HK.out)⟩
    · rw [if_neg c4] at H
      have c4b0 : decide (a1 ≤ 256) = false := decide_eq_false c4
      clear c4
      replace H := Option.bind_eq_some_iff.mp H
      obtain ⟨⟨t107, t108, t109⟩, A80, H⟩ := H
      replace H : ((spec_l1Byte.f s0_0 t108 t109).bind fun bt110 => ((spec_l1Byte.f s0_0 bt110.2.1 bt110.2.2).bind fun bt113 => ((spec_l1Byte.f s0_0 bt113.2.1 bt113.2.2).bind fun bt116 => (if a1 = 0 then (none) else (some (Int.tmod (wrap64 ((wrap64 ((wrap64 ((wrap64 (t107 * 16777216)) + (wrap64 (bt110.1 * 65536)))) + (wrap64 (bt113.1 * 256)))) + bt116.1)) a1, bt116.2.1, bt116.2.2)))))) = some (r1, r2, r3) := H
      have A8 := Aside0.mk A80
      clear A80
      replace H := Option.bind_eq_some_iff.mp H
      obtain ⟨⟨t110, t111, t112⟩, A90, H⟩ := H
      replace H : ((spec_l1Byte.f s0_0 t111 t112).bind fun bt113 => ((spec_l1Byte.f s0_0 bt113.2.1 bt113.2.2).bind fun bt116 => (if a1 = 0 then (none) else (some (Int.tmod (wrap64 ((wrap64 ((wrap64 ((wrap64 (t107 * 16777216)) + (wrap64 (t110 * 65536)))) + (wrap64 (bt113.1 * 256)))) + bt116.1)) a1, bt116.2.1, bt116.2.2))))) = some (r1, r2, r3) := H
      have A9 := Aside0.mk A90
      clear A90
      replace H := Option.bind_eq_some_iff.mp H
      obtain ⟨⟨t113, t114, t115⟩, A100, H⟩ := H
      replace H : ((spec_l1Byte.f s0_0 t114 t115).bind fun bt116 => (if a1 = 0 then (none) else (some (Int.tmod (wrap64 ((wrap64 ((wrap64 ((wrap64 (t107 * 16777216)) + (wrap64 (t110 * 65536)))) + (wrap64 (t113 * 256)))) + bt116.1)) a1, bt116.2.1, bt116.2.2)))) = some (r1, r2, r3) := H
      have A10 := Aside0.mk A100
      clear A100
      replace H := Option.bind_eq_some_iff.mp H
      obtain ⟨⟨t116, t117, t118⟩, A110, H⟩ := H
      replace H : (if a1 = 0 then (none) else (some (Int.tmod (wrap64 ((wrap64 ((wrap64 ((wrap64 (t107 * 16777216)) + (wrap64 (t110 * 65536)))) + (wrap64 (t113 * 256)))) + t116)) a1, t117, t118))) = some (r1, r2, r3) := H
      have A11 := Aside0.mk A110
      clear A110
      by_cases c12 : a1 = 0
      · rw [if_pos c12] at H
        exact absurd H (by simp)
      · rw [if_neg c12] at H
        have c12b0 : (a1 == 0) = false := beq_eq_false_iff_ne.mpr c12
        have c12b1 : (a1 != 0) = true := bne_iff_ne.mpr c12
        simp only [Option.some.injEq, Prod.mk.injEq] at H
        obtain ⟨rfl, rfl, rfl⟩ := H
        go_enter Try.func61, Try.ntmps61
        go_wp2_with (first | ((with_reducible refine gate_callee (f := 76) rfl ?_); refine goesL_ (some 18) rfl rfl Try.func76 (by kernel_rfl) rfl #[.pointer (some ⟨g, 0, none⟩)] rfl (by (try simp only [List.map_toArray, List.map_cons, List.map_nil]); first | done | rfl | (simp only [List.length_drop, List.length_take]; rfl)) ?_; (with_reducible refine (spec_l1Byte.calls g s0_0 s0_1 s0_2 t107 t108 t109 w0 _ ?side1 ?side2 A8.out).mono ?_); (case side1 => repeat (first | (with_reducible first | exact HI0.out | apply IsS84.alloc | apply IsS84.drewN | apply IsS84.drew | apply IsS84.set_1 | apply IsS84.set_2) | exact HI0.out)); (case side2 => repeat (first | (with_reducible first | exact HB.out | apply below_alloc | apply pw_below_drewN | apply below_drew1 | refine below_set ?_ (IsS84.ge HI0.out)) | exact HB.out)); rintro e w13 ⟨rfl, hi, hb, hk⟩; refine ⟨_, rfl, ?_⟩; have n0_ := Aside0.mk (KeepBut.trans (by repeat (first | (with_reducible first | exact HK.out | apply KeepBut.set_ | apply keep_drewN | apply keep_drew | apply keep_alloc) | exact HK.out)) hk (.inl rfl)); have n1_ := Aside0.mk (hb); have n2_ := Aside0.mk (hi); clear HK; clear HB; clear HI0; have HK := n0_; have HB := n1_; have HI0 := n2_; clear n0_ n1_ n2_; (try clear hb); (try clear hb2); (try clear hk); (try clear hi)) | ((with_reducible refine gate_callee (f := 76) rfl ?_); refine goesL_ (some 20) rfl rfl Try.func76 (by kernel_rfl) rfl #[.pointer (some ⟨g, 0, none⟩)] rfl (by (try simp only [List.map_toArray, List.map_cons, List.map_nil]); first | done | rfl | (simp only [List.length_drop, List.length_take]; rfl)) ?_; (with_reducible refine (spec_l1Byte.calls g s0_0 t108 t109 t110 t111 t112 w0 _ ?side1 ?side2 A9.out).mono ?_); (case side1 => repeat (first | (with_reducible first | exact HI0.out | apply IsS84.alloc | apply IsS84.drewN | apply IsS84.drew | apply IsS84.set_1 | apply IsS84.set_2) | exact HI0.out)); (case side2 => repeat (first | (with_reducible first | exact HB.out | apply below_alloc | apply pw_below_drewN | apply below_drew1 | refine below_set ?_ (IsS84.ge HI0.out)) | exact HB.out)); rintro e w14 ⟨rfl, hi, hb, hk⟩; refine ⟨_, rfl, ?_⟩; have n0_ := Aside0.mk (KeepBut.trans (by repeat (first | (with_reducible first | exact HK.out | apply KeepBut.set_ | apply keep_drewN | apply keep_drew | apply keep_alloc) | exact HK.out)) hk (.inl rfl)); have n1_ := Aside0.mk (hb); have n2_ := Aside0.mk (hi); clear HK; clear HB; clear HI0; have HK := n0_; have HB := n1_; have HI0 := n2_; clear n0_ n1_ n2_; (try clear hb); (try clear hb2); (try clear hk); (try clear hi)) | ((with_reducible refine gate_callee (f := 76) rfl ?_); refine goesL_ (some 22) rfl rfl Try.func76 (by kernel_rfl) rfl #[.pointer (some ⟨g, 0, none⟩)] rfl (by (try simp only [List.map_toArray, List.map_cons, List.map_nil]); first | done | rfl | (simp only [List.length_drop, List.length_take]; rfl)) ?_; (with_reducible refine (spec_l1Byte.calls g s0_0 t111 t112 t113 t114 t115 w0 _ ?side1 ?side2 A10.out).mono ?_); (case side1 => repeat (first | (with_reducible first | exact HI0.out | apply IsS84.alloc | apply IsS84.drewN | apply IsS84.drew | apply IsS84.set_1 | apply IsS84.set_2) | exact HI0.out)); (case side2 => repeat (first | (with_reducible first | exact HB.out | apply below_alloc | apply pw_below_drewN | apply below_drew1 | refine below_set ?_ (IsS84.ge HI0.out)) | exact HB.out)); rintro e w15 ⟨rfl, hi, hb, hk⟩; refine ⟨_, rfl, ?_⟩; have n0_ := Aside0.mk (KeepBut.trans (by repeat (first | (with_reducible first | exact HK.out | apply KeepBut.set_ | apply keep_drewN | apply keep_drew | apply keep_alloc) | exact HK.out)) hk (.inl rfl)); have n1_ := Aside0.mk (hb); have n2_ := Aside0.mk (hi); clear HK; clear HB; clear HI0; have HK := n0_; have HB := n1_; have HI0 := n2_; clear n0_ n1_ n2_; (try clear hb); (try clear hb2); (try clear hk); (try clear hi)) | ((with_reducible refine gate_callee (f := 76) rfl ?_); refine goesL_ (some 24) rfl rfl Try.func76 (by kernel_rfl) rfl #[.pointer (some ⟨g, 0, none⟩)] rfl (by (try simp only [List.map_toArray, List.map_cons, List.map_nil]); first | done | rfl | (simp only [List.length_drop, List.length_take]; rfl)) ?_; (with_reducible refine (spec_l1Byte.calls g s0_0 t114 t115 t116 t117 t118 w0 _ ?side1 ?side2 A11.out).mono ?_); (case side1 => repeat (first | (with_reducible first | exact HI0.out | apply IsS84.alloc | apply IsS84.drewN | apply IsS84.drew | apply IsS84.set_1 | apply IsS84.set_2) | exact HI0.out)); (case side2 => repeat (first | (with_reducible first | exact HB.out | apply below_alloc | apply pw_below_drewN | apply below_drew1 | refine below_set ?_ (IsS84.ge HI0.out)) | exact HB.out)); rintro e w16 ⟨rfl, hi, hb, hk⟩; refine ⟨_, rfl, ?_⟩; have n0_ := Aside0.mk (KeepBut.trans (by repeat (first | (with_reducible first | exact HK.out | apply KeepBut.set_ | apply keep_drewN | apply keep_drew | apply keep_alloc) | exact HK.out)) hk (.inl rfl)); have n1_ := Aside0.mk (hb); have n2_ := Aside0.mk (hi); clear HK; clear HB; clear HI0; have HK := n0_; have HB := n1_; have HI0 := n2_; clear n0_ n1_ n2_; (try clear hb); (try clear hb2); (try clear hk); (try clear hi)))
        go_ret
        exact ⟨by first | rfl | (simp [errW_none, errW_some] <;> rfl) | (simp [*, errW_none, errW_some] <;> rfl), by repeat (first | (with_reducible first | exact HI0.out | apply IsS84.alloc | apply IsS84.drewN | apply IsS84.drew | apply IsS84.set_1 | apply IsS84.set_2) | exact HI0.out), by repeat (first | (with_reducible first | exact HB.out | apply below_alloc | apply pw_below_drewN | apply below_drew1 | refine below_set ?_ (IsS84.ge HI0.out)) | exact HB.out), by repeat (first | (with_reducible first | exact HK.out | apply KeepBut.set_ | apply keep_drewN | apply keep_drew | apply keep_alloc) | exact HK.out)⟩
end Go.Proofs.Ytnjmhlhlmokjnaa.G
namespace Go.Proofs.Ytnjmhlhlmokjnaa.G
open Go.RowKit Go.Proofs.YtnjmhlhlmokjnaaW.PrintWords Go.Proofs.YtnjmhlhlmokjnaaW.PrintLast Go.Proofs.YtnjmhlhlmokjnaaW.PrintMore
attribute [local go_sem] max2_int min2_int max_two min_two max_three min_three max_four min_four
set_option linter.unusedVariables false
set_option linter.unusedSimpArgs false
def spec_l1Once.f (s0_0 : List Int) (s0_1 : Int) (s0_2 : Int) (a1 : Int) : Option (Bool × Int × Int) := (spec_l1Below.f s0_0 s0_1 s0_2 a1).bind fun bt119 => (some ((bt119.1 == 0), bt119.2.1, bt119.2.2))
set_option maxHeartbeats 8000000 in
set_option maxRecDepth 100000 in
theorem spec_l1Once.calls (g : Nat) (s0_0 : List Int) (s0_1 : Int) (s0_2 : Int) (a1 : Int) (r1 : Bool) (r2 : Int) (r3 : Int) (w0 w : World) (hI : IsS84 w0 w g s0_0 s0_1 s0_2) (hB : Below w0.heap.size w0 w) (h : spec_l1Once.f s0_0 s0_1 s0_2 a1 = some (r1, r2, r3)) :
    Calls Try.prog 60 #[.pointer (some ⟨g, 0, none⟩), .int .i64 a1] w fun e w' => e = .returned (.bool r1) ∧ IsS84 w0 w' g s0_0 r2 r3 ∧ Below w0.heap.size w0 w' ∧ KeepBut w w' g none := by
  have HI0 := Aside0.mk hI
  have HK := Aside0.mk (KeepBut.refl w g none)
  have HL := Aside0.mk hB.size
  clear hI
  have HW0 := Aside0.mk hB.size
  have HB := Aside0.mk hB
  clear hB
  have H : ((spec_l1Below.f s0_0 s0_1 s0_2 a1).bind fun bt119 => (some ((bt119.1 == 0), bt119.2.1, bt119.2.2))) = some (r1, r2, r3) := h
  clear h
  replace H := Option.bind_eq_some_iff.mp H
  obtain ⟨⟨t119, t120, t121⟩, A30, H⟩ := H
  replace H : (some ((t119 == 0), t120, t121)) = some (r1, r2, r3) := H
  have A3 := Aside0.mk A30
  clear A30
  simp only [Option.some.injEq, Prod.mk.injEq] at H
  obtain ⟨rfl, rfl, rfl⟩ := H
  go_enter Try.func60, Try.ntmps60
  go_wp2_with (first | ((with_reducible refine gate_callee (f := 61) rfl ?_); refine goesL_ (some 7) rfl rfl Try.func61 (by kernel_rfl) rfl #[.pointer (some ⟨g, 0, none⟩), .int .i64 a1] rfl (by (try simp only [List.map_toArray, List.map_cons, List.map_nil]); first | done | rfl | (simp only [List.length_drop, List.length_take]; rfl)) ?_; (with_reducible refine (spec_l1Below.calls g s0_0 s0_1 s0_2 a1 t119 t120 t121 w0 _ ?side1 ?side2 A3.out).mono ?_); (case side1 => repeat (first | (with_reducible first | exact HI0.out | apply IsS84.alloc | apply IsS84.drewN | apply IsS84.drew | apply IsS84.set_1 | apply IsS84.set_2) | exact HI0.out)); (case side2 => repeat (first | (with_reducible first | exact HB.out | apply below_alloc | apply pw_below_drewN | apply below_drew1 | refine below_set ?_ (IsS84.ge HI0.out)) | exact HB.out)); rintro e w4 ⟨rfl, hi, hb, hk⟩; refine ⟨_, rfl, ?_⟩; have n0_ := Aside0.mk (KeepBut.trans (by repeat (first | (with_reducible first | exact HK.out | apply KeepBut.set_ | apply keep_drewN | apply keep_drew | apply keep_alloc) | exact HK.out)) hk (.inl rfl)); have n1_ := Aside0.mk (hb); have n2_ := Aside0.mk (hi); clear HK; clear HB; clear HI0; have HK := n0_; have HB := n1_; have HI0 := n2_; clear n0_ n1_ n2_; (try clear hb); (try clear hb2); (try clear hk); (try clear hi)))
  go_ret
  exact ⟨by first | rfl | (simp [errW_none, errW_some] <;> rfl) | (simp [*, errW_none, errW_some] <;> rfl), by repeat (first | (with_reducible first | exact HI0.out | apply IsS84.alloc | apply IsS84.drewN | apply IsS84.drew | apply IsS84.set_1 | apply IsS84.set_2) | exact HI0.out), by repeat (first | (with_reducible first | exact HB.out | apply below_alloc | apply pw_below_drewN | apply below_drew1 | refine below_set ?_ (IsS84.ge HI0.out)) | exact HB.out), by repeat (first | (with_reducible first | exact HK.out | apply KeepBut.set_ | apply keep_drewN | apply keep_drew | apply keep_alloc) | exact HK.out)⟩
end Go.Proofs.Ytnjmhlhlmokjnaa.G
namespace Go.Proofs.Ytnjmhlhlmokjnaa.G
open Go.RowKit Go.Proofs.YtnjmhlhlmokjnaaW.PrintWords Go.Proofs.YtnjmhlhlmokjnaaW.PrintLast Go.Proofs.YtnjmhlhlmokjnaaW.PrintMore
attribute [local go_sem] max2_int min2_int max_two min_two max_three min_three max_four min_four
set_option linter.unusedVariables false
set_option linter.unusedSimpArgs false
def spec_l2Int.l0 : Nat → Int → ByteArray → Option (ByteArray)
  | 0, _, _ => none
  | k + 1, x0, x3 => if x0 > 9 then ((some (([(wrap64 (48 + (Int.tmod x0 10))) % 256] : List Int) : List Int)).bind fun y122 => (if (strOfNums y122).size + x3.size ≤ 9223372036854775807 then (spec_l2Int.l0 k (wrap64 (Int.tdiv x0 10)) ((strOfNums y122) ++ x3)) else (none))) else ((some (([(wrap64 (48 + x0)) % 256] : List Int) : List Int)).bind fun y125 => (if (strOfNums y125).size + x3.size ≤ 9223372036854775807 then (some ((strOfNums y125) ++ x3)) else (none)))
def spec_l2Int.f (k : Nat) (a0 : Int) : Option (ByteArray) := spec_l2Int.l0 k a0 (⟨#[]⟩ : ByteArray)
set_option maxHeartbeats 8000000 in
set_option maxRecDepth 100000 in
theorem spec_l2Int.calls (k : Nat) (a0 : Int) (r : ByteArray) (w : World) (h : spec_l2Int.f k a0 = some r) :
    Calls Try.prog 68 #[.int .i64 a0] w fun e w' => e = .returned (.string r) ∧ Below w.heap.size w w' := by
  have HB := Aside0.mk (Below.refl w.heap.size w)
  have H : (spec_l2Int.l0 k a0 (⟨#[]⟩ : ByteArray)) = some r := h
  clear h
  have H' := Aside0.mk H
  clear H
  go_enter Try.func68, Try.ntmps68
  go_wp2
  go_loopg [0, 3] k (fun kq v0 v3 w' => ∃ (x0_1 : Int) (x3_1 : ByteArray), v0 = .int .i64 x0_1 ∧ v3 = .string x3_1 ∧ Aside0 (spec_l2Int.l0 kq x0_1 x3_1 = some r) ∧ Aside0 (kq ≤ k) ∧ Aside0 (Below w.heap.size w w'))
  case atStart => exact ⟨(a0), ((⟨#[]⟩ : ByteArray)), (by first | rfl | (simp; done) | (simp [*]; done)), (by first | rfl | (simp; done) | (simp [*]; done)), H', ⟨Nat.le_refl _⟩, ⟨by repeat (first | (with_reducible first | exact HB.out | apply below_alloc | apply pw_below_drewN | apply below_drew1) | exact HB.out)⟩⟩
  case round =>
    clear H'
    obtain ⟨x0_1, x3_1, rfl, rfl, HA, HK1, HB⟩ := hrel
    cases gk with
    | zero => exact absurd HA.out (by simp [spec_l2Int.l0])
    | succ k1 =>
      have H := HA.out
      clear HA
      simp only [spec_l2Int.l0] at H
      by_cases c2 : x0_1 > 9
      · rw [if_pos c2] at H
        have c2b0 : decide (9 < x0_1) = true := decide_eq_true c2
        clear c2
        obtain ⟨y122, hy122⟩ : ∃ y_ : List Int, y_ = (([(wrap64 (48 + (Int.tmod x0_1 10))) % 256] : List Int)) := ⟨_, rfl⟩
        replace H : (if (strOfNums y122).size + x3_1.size ≤ 9223372036854775807 then (spec_l2Int.l0 k1 (wrap64 (Int.tdiv x0_1 10)) ((strOfNums y122) ++ x3_1)) else (none)) = some r := by first | (rw [hy122]; with_reducible exact H) | (have H2_ := (Option.bind_some _ _).symm.trans H; rw [hy122]; with_reducible exact H2_) | (have H2_ := (Option.bind_some _ _).symm.trans H; with_reducible exact H2_) | with_reducible exact H | (rw [hy122]; exact H) | exact H
        have Ny122 := Aside0.mk hy122
        clear hy122
        by_cases c3 : (strOfNums y122).size + x3_1.size ≤ 9223372036854775807
        · rw [if_pos c3] at H
          have c3b0 := eq_true c3
          have c3b1 : decide ((strOfNums y122).size + x3_1.size ≤ 9223372036854775807) = true := decide_eq_true c3
          try have c3b2 : (9223372036854775807 < (strOfNums y122).size + x3_1.size) = False := eq_false (Nat.not_lt.2 c3)
          have H' := Aside0.mk H
          clear H
          go_wp2_with (first | ((with_reducible refine gate_dst (N := 10) rfl ?_); refine Kd.R_lit (Kd.int .u8) _ 5 ?hg (N := 10) ?hd (xs := ([(wrap64 (48 + (Int.tmod x0_1 10))) % 256] : List Int)) (inner := [.int .u8 ((wrap64 (48 + (Int.tmod x0_1 10))) % 256)]) (ok := fun _ => True) (okp := fun _ => True) ?hr ?hp (fun _ hk => hk) trivial (Below.refl _ _) (Nat.le_refl _) (by simp) ?_; (case hd => rfl); (case hg => rfl); (case hr => first | (go_simp; done) | (go_simp; rfl)); (case hp => exact (Reps.one (show Kd.M (Kd.int .u8) _ _ _ ((wrap64 (48 + (Int.tmod x0_1 10))) % 256) [.int .u8 ((wrap64 (48 + (Int.tmod x0_1 10))) % 256)] from rfl) (Reps.none _ _))); intro v123 w4 ho5 hb hg_ hnew_; clear hg_ hnew_; (first | rw [← Ny122.out] at ho5 | (simp only [Int.reduceToNat] at ho5; rw [← Ny122.out] at ho5)); have n0_ := Aside0.mk (Kd.R_lower ho5 (below_size (by repeat (first | (with_reducible first | exact HB.out | apply below_alloc | apply pw_below_drewN | apply below_drew1) | exact HB.out)))); have n1_ := Aside0.mk (below_step (by repeat (first | (with_reducible first | exact HB.out | apply below_alloc | apply pw_below_drewN | apply below_drew1) | exact HB.out)) hb); clear HB; have HO124 := n0_; have HB := n1_; clear n0_ n1_; clear hb ho5; have hcv6 := own_string (P := Try.prog) Try.underlying22 Try.underlying5 Try.underlying9 (Kd.own_of_R HO124.out)))
          go_roundg k1
          case measure => have := HK1.out; omega
          case rel => exact ⟨(wrap64 (Int.tdiv x0_1 10)), ((strOfNums y122) ++ x3_1), (by first | rfl | (simp; done) | (simp [*]; done)), (by first | rfl | (simp; done) | (simp [*]; done)), H', ⟨by have := HK1.out; omega⟩, ⟨by repeat (first | (with_reducible first | exact HB.out | apply below_alloc | apply pw_below_drewN | apply below_drew1) | exact HB.out)⟩⟩
        · rw [if_neg c3] at H
          exact absurd H (by simp)
      · rw [if_neg c2] at H
        have c2b0 : decide (9 < x0_1) = false := decide_eq_false c2
        clear c2
        obtain ⟨y125, hy125⟩ : ∃ y_ : List Int, y_ = (([(wrap64 (48 + x0_1)) % 256] : List Int)) := ⟨_, rfl⟩
        replace H : (if (strOfNums y125).size + x3_1.size ≤ 9223372036854775807 then (some ((strOfNums y125) ++ x3_1)) else (none)) = some r := by first | (rw [hy125]; with_reducible exact H) | (have H2_ := (Option.bind_some _ _).symm.trans H; rw [hy125]; with_reducible exact H2_) | (have H2_ := (Option.bind_some _ _).symm.trans H; with_reducible exact H2_) | with_reducible exact H | (rw [hy125]; exact H) | exact H
        have Ny125 := Aside0.mk hy125
        clear hy125
        by_cases c7 : (strOfNums y125).size + x3_1.size ≤ 9223372036854775807
        · rw [if_pos c7] at H
          have c7b0 := eq_true c7
          have c7b1 : decide ((strOfNums y125).size + x3_1.size ≤ 9223372036854775807) = true := decide_eq_true c7
          try have c7b2 : (9223372036854775807 < (strOfNums y125).size + x3_1.size) = False := eq_false (Nat.not_lt.2 c7)
          obtain rfl := Option.some.inj H
          go_wp2_with (first | ((with_reducible refine gate_dst (N := 19) rfl ?_); refine Kd.R_lit (Kd.int .u8) _ 5 ?hg (N := 19) ?hd (xs := ([(wrap64 (48 + x0_1)) % 256] : List Int)) (inner := [.int .u8 ((wrap64 (48 + x0_1)) % 256)]) (ok := fun _ => True) (okp := fun _ => True) ?hr ?hp (fun _ hk => hk) trivial (Below.refl _ _) (Nat.le_refl _) (by simp) ?_; (case hd => rfl); (case hg => rfl); (case hr => first | (go_simp; done) | (go_simp; rfl)); (case hp => exact (Reps.one (show Kd.M (Kd.int .u8) _ _ _ ((wrap64 (48 + x0_1)) % 256) [.int .u8 ((wrap64 (48 + x0_1)) % 256)] from rfl) (Reps.none _ _))); intro v126 w8 ho9 hb hg_ hnew_; clear hg_ hnew_; (first | rw [← Ny125.out] at ho9 | (simp only [Int.reduceToNat] at ho9; rw [← Ny125.out] at ho9)); have n0_ := Aside0.mk (Kd.R_lower ho9 (below_size (by repeat (first | (with_reducible first | exact HB.out | apply below_alloc | apply pw_below_drewN | apply below_drew1) | exact HB.out)))); have n1_ := Aside0.mk (below_step (by repeat (first | (with_reducible first | exact HB.out | apply below_alloc | apply pw_below_drewN | apply below_drew1) | exact HB.out)) hb); clear HB; have HO127 := n0_; have HB := n1_; clear n0_ n1_; clear hb ho9; have hcv10 := own_string (P := Try.prog) Try.underlying22 Try.underlying5 Try.underlying9 (Kd.own_of_R HO127.out)))
          go_ret
          exact ⟨by first | rfl | (simp [errW_none, errW_some] <;> rfl) | (simp [*, errW_none, errW_some] <;> rfl), by repeat (first | (with_reducible first | exact HB.out | apply below_alloc | apply pw_below_drewN | apply below_drew1) | exact HB.out)⟩
        · rw [if_neg c7] at H
          exact absurd H (by simp)
end Go.Proofs.Ytnjmhlhlmokjnaa.G
namespace Go.Proofs.Ytnjmhlhlmokjnaa.G
open Go.RowKit Go.Proofs.YtnjmhlhlmokjnaaW.PrintWords Go.Proofs.YtnjmhlhlmokjnaaW.PrintLast Go.Proofs.YtnjmhlhlmokjnaaW.PrintMore
attribute [local go_sem] max2_int min2_int max_two min_two max_three min_three max_four min_four
set_option linter.unusedVariables false
set_option linter.unusedSimpArgs false
mutual
def spec_l18Draw.l0 : Nat → List (S32) → List ByteArray → Int → List Int → Int → Int → Option ((List (S32)) × Int × Int)
  | 0, _, _, _, _, _, _ => none
  | k + 1, x3, x4, x5, x1000, x1001, x1002 => if x5 < (x4.length : Int) then ((spec_l1Once.f x1000 x1001 x1002 4).bind fun bt132 => (if bt132.1 = true then (spec_l18Draw.l0 k x3 x4 (wrap64 (x5 + 1)) x1000 bt132.2.1 bt132.2.2) else (if 0 ≤ x5 then ((spec_l1Below.f x1000 bt132.2.1 bt132.2.2 2).bind fun bt136 => ((spec_l2Int.f k bt136.1).bind fun t139 => (if 4 + t139.size ≤ 9223372036854775807 then ((spec_l1Once.f x1000 bt136.2.1 bt136.2.2 4).bind fun bt140 => (spec_l18Draw.l1 k x3 x4 x5 0 x1000 bt140.2.1 bt140.2.2 (rdOf ByteArray.empty x4 x5) ([] : List ByteArray) ([] : List ByteArray) ((⟨#[114, 117, 110, 32]⟩ : ByteArray) ++ t139) bt140.1)) else (none)))) else (none)))) else ((spec_l1Once.f x1000 x1001 x1002 14).bind fun bt171 => (if bt171.1 = true then (spec_l18Draw.j4 k x3 (decide ((x3.length : Int) > 0)) x1000 bt171.2.1 bt171.2.2) else (spec_l18Draw.j4 k x3 false x1000 bt171.2.1 bt171.2.2)))
def spec_l18Draw.l1 : Nat → List (S32) → List ByteArray → Int → Int → List Int → Int → Int → ByteArray → List ByteArray → List ByteArray → ByteArray → Bool → Option ((List (S32)) × Int × Int)
  | 0, _, _, _, _, _, _, _, _, _, _, _, _ => none
  | k + 1, x3, x4, x5, x7, x1000, x1001, x1002, x144000, x144001, x144002, x144003, x144004 => if x7 < (x4.length : Int) then ((spec_l1Once.f x1000 x1001 x1002 5).bind fun bt147 => (if bt147.1 = true then (if x7 < x5 then (spec_l18Draw.j2 k x3 x4 x5 x7 true x1000 bt147.2.1 bt147.2.2 x144000 x144001 x144002 x144003 x144004) else ((spec_l1Once.f x1000 bt147.2.1 bt147.2.2 5).bind fun bt150 => (spec_l18Draw.j2 k x3 x4 x5 x7 bt150.1 x1000 bt150.2.1 bt150.2.2 x144000 x144001 x144002 x144003 x144004))) else (spec_l18Draw.j2 k x3 x4 x5 x7 false x1000 bt147.2.1 bt147.2.2 x144000 x144001 x144002 x144003 x144004))) else (if x3.length < 1599289640401 then (spec_l18Draw.l0 k (x3 ++ [(⟨x144000, x144001, x144002, x144003, x144004⟩ : S32)]) x4 (wrap64 (x5 + 1)) x1000 x1001 x1002) else (none))
def spec_l18Draw.j2 : Nat → List (S32) → List ByteArray → Int → Int → Bool → List Int → Int → Int → ByteArray → List ByteArray → List ByteArray → ByteArray → Bool → Option ((List (S32)) × Int × Int)
  | 0, _, _, _, _, _, _, _, _, _, _, _, _, _ => none
  | k + 1, x3, x4, x5, x7, x46, x1000, x1001, x1002, x144000, x144001, x144002, x144003, x144004 => if x46 = true then (if 0 ≤ x7 then (if x7 < (x4.length : Int) then (if x144001.length < 8796093022208 then (spec_l18Draw.j3 k x3 x4 x5 x7 x1000 x1001 x1002 x144000 (x144001 ++ [rdOf ByteArray.empty x4 x7]) x144002 x144003 x144004) else (none)) else (none)) else (none)) else (spec_l18Draw.j3 k x3 x4 x5 x7 x1000 x1001 x1002 x144000 x144001 x144002 x144003 x144004)
def spec_l18Draw.j3 : Nat → List (S32) → List ByteArray → Int → Int → List Int → Int → Int → ByteArray → List ByteArray → List ByteArray → ByteArray → Bool → Option ((List (S32)) × Int × Int)
  | 0, _, _, _, _, _, _, _, _, _, _, _, _ => none
  | k + 1, x3, x4, x5, x7, x1000, x1001, x1002, x144000, x144001, x144002, x144003, x144004 => (spec_l1Once.f x1000 x1001 x1002 6).bind fun bt157 => (if bt157.1 = true then (if x7 < x5 then (if 0 ≤ x7 then (if x7 < (x4.length : Int) then (if x144002.length < 8796093022208 then (spec_l18Draw.l1 k x3 x4 x5 (wrap64 (x7 + 1)) x1000 bt157.2.1 bt157.2.2 x144000 x144001 (x144002 ++ [rdOf ByteArray.empty x4 x7]) x144003 x144004) else (none)) else (none)) else (none)) else ((spec_l1Once.f x1000 bt157.2.1 bt157.2.2 6).bind fun bt164 => (if bt164.1 = true then (if 0 ≤ x7 then (if x7 < (x4.length : Int) then (if x144002.length < 8796093022208 then (spec_l18Draw.l1 k x3 x4 x5 (wrap64 (x7 + 1)) x1000 bt164.2.1 bt164.2.2 x144000 x144001 (x144002 ++ [rdOf ByteArray.empty x4 x7]) x144003 x144004) else (none)) else (none)) else (none)) else (spec_l18Draw.l1 k x3 x4 x5 (wrap64 (x7 + 1)) x1000 bt164.2.1 bt164.2.2 x144000 x144001 x144002 x144003 x144004)))) else (spec_l18Draw.l1 k x3 x4 x5 (wrap64 (x7 + 1)) x1000 bt157.2.1 bt157.2.2 x144000 x144001 x144002 x144003 x144004))
def spec_l18Draw.j4 : Nat → List (S32) → Bool → List Int → Int → Int → Option ((List (S32)) × Int × Int)
  | 0, _, _, _, _, _ => none
  | k + 1, x3, x86, x1000, x1001, x1002 => if x86 = true then ((spec_l1Below.f x1000 x1001 x1002 (x3.length : Int)).bind fun bt174 => (if 0 ≤ bt174.1 then (if bt174.1 < (x3.length : Int) then ((spec_l1Below.f x1000 bt174.2.1 bt174.2.2 4).bind fun bt178 => (if bt178.1 = 0 then (some ((x3.set (bt174.1 : Int).toNat (⟨(⟨#[97]⟩ : ByteArray), (rd_T32 x3 bt174.1).f1, (rd_T32 x3 bt174.1).f2, (rd_T32 x3 bt174.1).f3, (rd_T32 x3 bt174.1).f4⟩ : S32)), bt178.2.1, bt178.2.2)) else (if bt178.1 = 1 then (some ((x3.set (bt174.1 : Int).toNat (⟨(rd_T32 x3 bt174.1).f0, (([(⟨#[98]⟩ : ByteArray), (⟨#[97]⟩ : ByteArray)] : List ByteArray)), (rd_T32 x3 bt174.1).f2, (rd_T32 x3 bt174.1).f3, (rd_T32 x3 bt174.1).f4⟩ : S32)), bt178.2.1, bt178.2.2)) else (if bt178.1 = 2 then (some ((x3.set (bt174.1 : Int).toNat (⟨(rd_T32 x3 bt174.1).f0, (rd_T32 x3 bt174.1).f1, (([(⟨#[]⟩ : ByteArray)] : List ByteArray)), (rd_T32 x3 bt174.1).f3, (rd_T32 x3 bt174.1).f4⟩ : S32)), bt178.2.1, bt178.2.2)) else (if bt178.1 = 3 then ((spec_l1Below.f x1000 bt178.2.1 bt178.2.2 2).bind fun bt190 => (if 0 ≤ (wrap64 (4000 + bt190.1)) then (if (wrap64 (4000 + bt190.1) : Int).toNat ≤ 281474976710656 then (some ((x3.set (bt174.1 : Int).toNat (⟨(rd_T32 x3 bt174.1).f0, (rd_T32 x3 bt174.1).f1, (rd_T32 x3 bt174.1).f2, strOfNums (List.replicate (wrap64 (4000 + bt190.1) : Int).toNat 0), (rd_T32 x3 bt174.1).f4⟩ : S32)), bt190.2.1, bt190.2.2)) else (none)) else (none))) else (some (x3, bt178.2.1, bt178.2.2))))))) else (none)) else (none))) else (some (x3, x1001, x1002))
end
def spec_l18Draw.f (k : Nat) (s0_0 : List Int) (s0_1 : Int) (s0_2 : Int) : Option ((List (S32)) × Int × Int) := spec_l18Draw.l0 k (([] : List (S32))) (([(⟨#[97]⟩ : ByteArray), (⟨#[98]⟩ : ByteArray), (⟨#[99]⟩ : ByteArray), (⟨#[100]⟩ : ByteArray), (⟨#[101]⟩ : ByteArray), (⟨#[102]⟩ : ByteArray)] : List ByteArray)) 0 s0_0 s0_1 s0_2
def spec_l18Draw.T7 : Bool × List (List Nat × List Nat) := (true, [([], []), ([], []), ([0, 1], [0, 1]), ([2], [2]), ([], []), ([4], [4]), ([5, 5], [5]), ([6], [6]), ([], []), ([8, 6], [8]), ([3, 7, 9], [3, 7, 9]), ([], []), ([11, 10, 9, 0, 1, 2, 3, 4, 5, 6, 7, 8, 9, 10, 11], [10, 11])])
def spec_l18Draw.B7 : List Nat := [0, 0, 3, 7, 0, 16, 48, 112, 0, 368, 1023, 0, 4095]
theorem spec_l18Draw.tab7 : rtab .any (opsOf Try.f42 7) = spec_l18Draw.T7 := by kernel_rfl
theorem spec_l18Draw.bits7 : waitsOk spec_l18Draw.T7.2 spec_l18Draw.B7 = true := by kernel_rfl
def spec_l18Draw.T12 : Bool × List (List Nat × List Nat) := (true, [([], []), ([0], [0]), ([], []), ([], []), ([2, 3], [2, 3]), ([4], [4]), ([5], [5]), ([1, 6], [1, 6]), ([0, 1, 2, 3, 4, 5, 6, 7], []), ([8, 7, 7, 0, 1, 2, 3, 4, 5, 6, 7], [7, 8])])
def spec_l18Draw.B12 : List Nat := [0, 1, 0, 0, 12, 28, 60, 127, 255, 511]
theorem spec_l18Draw.tab12 : rtab .any (opsOf Try.f42 12) = spec_l18Draw.T12 := by kernel_rfl
theorem spec_l18Draw.bits12 : waitsOk spec_l18Draw.T12.2 spec_l18Draw.B12 = true := by kernel_rfl
def spec_l18Draw.T14 : Bool × List (List Nat × List Nat) := (true, [([], []), ([0], [0]), ([], []), ([], []), ([2, 3], [2, 3]), ([4], [4]), ([5], [5]), ([1, 6], [1, 6]), ([0, 1, 2, 3, 4, 5, 6, 7], []), ([8, 7, 7, 0, 1, 2, 3, 4, 5, 6, 7], [7, 8])])
def spec_l18Draw.B14 : List Nat := [0, 1, 0, 0, 12, 28, 60, 127, 255, 511]
theorem spec_l18Draw.tab14 : rtab .any (opsOf Try.f42 14) = spec_l18Draw.T14 := by kernel_rfl
theorem spec_l18Draw.bits14 : waitsOk spec_l18Draw.T14.2 spec_l18Draw.B14 = true := by kernel_rfl
theorem Ia : ∀ {w0 W : Go.World} {g : Nat} {f0 : List Int} {f1 f2 : Int}, IsS84 w0 W g f0 f1 f2 → ∀ (o : Go.Obj), IsS84 w0 (W.alloc o) g f0 f1 f2 := @IsS84.alloc
theorem Ib : ∀ {w0 W : Go.World} {g : Nat} {f0 : List Int} {f1 f2 : Int}, IsS84 w0 W g f0 f1 f2 → ∀ (m : Nat), IsS84 w0 (W.drewN m) g f0 f1 f2 := @IsS84.drewN
theorem Ic : ∀ {w0 W : Go.World} {g : Nat} {f0 : List Int} {f1 f2 : Int}, IsS84 w0 W g f0 f1 f2 → IsS84 w0 W.drew g f0 f1 f2 := @IsS84.drew
theorem Ih : ∀ {w0 W : Go.World} {g : Nat} {f0 : List Int} {f1 f2 : Int}, IsS84 w0 W g f0 f1 f2 → ∀ (x : Int), IsS84 w0 (W.setCell { block := g, off := 1 } (Go.Value.int Go.IntKind.i64 x)) g f0 x f2 := @IsS84.set_1
theorem Ie : ∀ {w0 W : Go.World} {g : Nat} {f0 : List Int} {f1 f2 : Int}, IsS84 w0 W g f0 f1 f2 → ∀ (x : Int), IsS84 w0 (W.setCell { block := g, off := 2 } (Go.Value.int Go.IntKind.i64 x)) g f0 f1 x := @IsS84.set_2
theorem Ij : ∀ {w0 W : Go.World} {g : Nat} {f0 : List Int} {f1 f2 : Int} {α : Type} {d : Kd α} {e base : Nat} {ok : Nat → Prop} {v : Go.Value} {xs : List α}, IsS84 w0 W g f0 f1 f2 → d.S e W base ok v xs → (∀ (q : Nat), q ∈ e :: d.E → q ≠ 84) → d.S e W base (fun k => ok k ∧ k ≠ g) v xs := @IsS84.apartS
theorem Ig : ∀ {w0 W : Go.World} {g : Nat} {f0 : List Int} {f1 f2 : Int} {α : Type} {d : Kd α} {e base : Nat} {ok : Nat → Prop} {v : Go.Value} {xs : List α}, IsS84 w0 W g f0 f1 f2 → d.R e W base ok v xs → (∀ (q : Nat), q ∈ e :: d.E → q ≠ 84) → d.R e W base (fun k => ok k ∧ k ≠ g) v xs := @IsS84.apart
theorem Ba : ∀ {B : Nat} {w W : Go.World}, Below B w W → ∀ (n : Nat), Below B w (W.drewN n) := @pw_below_drewN
theorem Bb : ∀ {w W : Go.World}, Below w.heap.size w W → ∀ (o : Go.Obj), Below w.heap.size w (W.alloc o) := @below_alloc
theorem Bc : ∀ {base : Nat} {w W : Go.World}, Below base w W → Below base w W.drew := @below_drew1
theorem Bd : ∀ {w W : Go.World} {g j : Nat} {v : Go.Value}, Below w.heap.size w W → w.heap.size ≤ g → Below w.heap.size w (W.setCell { block := g, off := j } v) := @below_set
theorem Ka : ∀ {w W : Go.World} {g : Nat} {row : Option Nat}, KeepBut w W g row → ∀ (m : Nat), KeepBut w (W.drewN m) g row := @keep_drewN
theorem Kb : ∀ {w W : Go.World} {g : Nat} {row : Option Nat}, KeepBut w W g row → KeepBut w W.drew g row := @keep_drew
theorem Kc : ∀ {w W : Go.World} {g : Nat}, KeepBut w W g none → ∀ (o : Go.Obj), KeepBut w (W.alloc o) g none := @keep_alloc
theorem Ke : ∀ {w w1 : Go.World} {g : Nat} {row : Option Nat}, KeepBut w w1 g row → ∀ (j : Nat) (u : Go.Value), KeepBut w (w1.setCell { block := g, off := j } u) g row := @KeepBut.set_
theorem Ra : ∀ {α : Type} {d : Kd α} {e : Nat} {w : Go.World} {base : Nat} {ok : Nat → Prop} {v : Go.Value} {xs : List α}, d.R e w base ok v xs → ∀ (o : Go.Obj), d.R e (w.alloc o) base ok v xs := @Kd.R_alloc
theorem Rb : ∀ {α : Type} {d : Kd α} {e : Nat} {w : Go.World} {base : Nat} {ok : Nat → Prop} {v : Go.Value} {xs : List α}, d.R e w base ok v xs → ∀ (m : Nat), d.R e (w.drewN m) base ok v xs := @Kd.R_drewN
theorem Rc : ∀ {α : Type} {d : Kd α} {e : Nat} {w : Go.World} {base : Nat} {ok : Nat → Prop} {v : Go.Value} {xs : List α}, d.R e w base ok v xs → d.R e w.drew base ok v xs := @Kd.R_drew
theorem Sa : ∀ {α : Type} {d : Kd α} {e : Nat} {w : Go.World} {base : Nat} {ok : Nat → Prop} {v : Go.Value} {xs : List α}, d.S e w base ok v xs → ∀ (o : Go.Obj), d.S e (w.alloc o) base ok v xs := @Kd.S_alloc
theorem Sb : ∀ {α : Type} {d : Kd α} {e : Nat} {w : Go.World} {base : Nat} {ok : Nat → Prop} {v : Go.Value} {xs : List α}, d.S e w base ok v xs → ∀ (m : Nat), d.S e (w.drewN m) base ok v xs := @Kd.S_drewN
theorem Sc : ∀ {α : Type} {d : Kd α} {e : Nat} {w : Go.World} {base : Nat} {ok : Nat → Prop} {v : Go.Value} {xs : List α}, d.S e w base ok v xs → d.S e w.drew base ok v xs := @Kd.S_drew
theorem am : ∀ {p : Prop}, p → Aside0 p := @Aside0.mk
end Go.Proofs.Ytnjmhlhlmokjnaa.G
