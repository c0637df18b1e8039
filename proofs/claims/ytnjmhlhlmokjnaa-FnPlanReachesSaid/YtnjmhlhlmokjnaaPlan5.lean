/-
  Part 5 of the texts of this claim: XDraw.
-/
import Derived.Test.YtnjmhlhlmokjnaaPlan4
namespace Go.Proofs.Ytnjmhlhlmokjnaa.G
open Go.RowKit Go.Proofs.YtnjmhlhlmokjnaaW.PrintWords Go.Proofs.YtnjmhlhlmokjnaaW.PrintLast Go.Proofs.YtnjmhlhlmokjnaaW.PrintMore
attribute [local go_sem] max2_int min2_int max_two min_two max_three min_three max_four min_four
set_option linter.unusedVariables false
set_option linter.unusedSimpArgs false
set_option maxHeartbeats 8000000 in
set_option maxRecDepth 100000 in
theorem spec_l18Draw.calls (k : Nat) (g : Nat) (s0_0 : List Int) (s0_1 : Int) (s0_2 : Int) (r1 : List (S32)) (r2 : Int) (r3 : Int) (w0 w : World) (hI : IsS84 w0 w g s0_0 s0_1 s0_2) (hB : Below w0.heap.size w0 w) (h : spec_l18Draw.f k s0_0 s0_1 s0_2 = some (r1, r2, r3)) :
  Calls Try.prog 42 #[.pointer (some ⟨g, 0, none⟩)] w fun e w' => ∃ v0_ : Value, e = .returned (v0_) ∧ Kd.S k32 32 w' w.heap.size (fun _ => True) v0_ r1 ∧ IsS84 w0 w' g s0_0 r2 r3 ∧ Below w0.heap.size w0 w' ∧ KeepBut w w' g none := by
 have hu32 := Try.underlying32
 have HI0 := am hI
 have HK := am (KeepBut.refl w g none)
 have HL := am hB.size
 clear hI
 have HW0 := am hB.size
 have HB := am hB
 clear hB
 have H : (spec_l18Draw.l0 k (([] : List (S32))) (([(⟨#[97]⟩ : ByteArray), (⟨#[98]⟩ : ByteArray), (⟨#[99]⟩ : ByteArray), (⟨#[100]⟩ : ByteArray), (⟨#[101]⟩ : ByteArray), (⟨#[102]⟩ : ByteArray)] : List ByteArray)) 0 s0_0 s0_1 s0_2) = some (r1, r2, r3) := h
 clear h
 obtain ⟨y126, hy126⟩ : ∃ y_ : List (S32), y_ = (([] : List (S32))) := ⟨_, rfl⟩
 replace H : (spec_l18Draw.l0 k y126 (([(⟨#[97]⟩ : ByteArray), (⟨#[98]⟩ : ByteArray), (⟨#[99]⟩ : ByteArray), (⟨#[100]⟩ : ByteArray), (⟨#[101]⟩ : ByteArray), (⟨#[102]⟩ : ByteArray)] : List ByteArray)) 0 s0_0 s0_1 s0_2) = some (r1, r2, r3) := by first | (rw [hy126]; with_reducible exact H) | (have H2_ := (Option.bind_some _ _).symm.trans H; rw [hy126]; with_reducible exact H2_) | (have H2_ := (Option.bind_some _ _).symm.trans H; with_reducible exact H2_) | with_reducible exact H | (rw [hy126]; exact H) | exact H
 have Ny126 := am hy126
 clear hy126
 obtain ⟨y129, hy129⟩ : ∃ y_ : List ByteArray, y_ = (([(⟨#[97]⟩ : ByteArray), (⟨#[98]⟩ : ByteArray), (⟨#[99]⟩ : ByteArray), (⟨#[100]⟩ : ByteArray), (⟨#[101]⟩ : ByteArray), (⟨#[102]⟩ : ByteArray)] : List ByteArray)) := ⟨_, rfl⟩
 replace H : (spec_l18Draw.l0 k y126 y129 0 s0_0 s0_1 s0_2) = some (r1, r2, r3) := by first | (rw [hy129]; with_reducible exact H) | (have H2_ := (Option.bind_some _ _).symm.trans H; rw [hy129]; with_reducible exact H2_) | (have H2_ := (Option.bind_some _ _).symm.trans H; with_reducible exact H2_) | with_reducible exact H | (rw [hy129]; exact H) | exact H
 have Ny129 := am hy129
 clear hy129
 have H' := am H
 clear H
 go_enter Try.func42, Try.ntmps42
 go_wp2_with (first | ((with_reducible refine gate_dst (N := 9) rfl ?_); (try (refine gate_guard (by rfl) ?_; dsimp only)); refine Kd.S_lit k32 _ 32 ?hg (N := 9) ?hd (xs := ([] : List (S32))) (inner := []) (ok := fun _ => True) (okp := fun _ => True) ?hr ?hp (fun _ hk => hk) trivial (Below.refl _ _) (Nat.le_refl _) (by simp) ?_; (case hd => rfl); (case hg => rfl); (case hr => first | (go_simp; done) | (go_simp; rfl)); (case hp => exact (Reps.none _ _)); intro v127 w2 ho3 hb hg_ hnew_; clear hg_ hnew_; (first | rw [← Ny126.out] at ho3 | (simp only [Int.reduceToNat] at ho3; rw [← Ny126.out] at ho3)); have n0_ := am (Kd.S_lower ho3 (keep_size (w := w) (g := g) (row := none) (by repeat (first | (with_reducible first | exact HK.out | apply Ke | apply Ka | apply Kb | apply Kc) | exact HK.out)))); have n1_ := am (IsS84.below (by repeat (first | (with_reducible first | exact HI0.out | apply Ia | apply Ib | apply Ic | apply Ih | apply Ie) | exact HI0.out)) hb); have n2_ := am (KeepBut.trans (by repeat (first | (with_reducible first | exact HK.out | apply Ke | apply Ka | apply Kb | apply Kc) | exact HK.out)) (KeepBut.of_below hb g none) (.inl rfl)); have n3_ := am (below_step (by repeat (first | (with_reducible first | exact HB.out | apply Bb | apply Ba | apply Bc | refine Bd ?_ (IsS84.ge HI0.out)) | exact HB.out)) hb); clear HI0; clear HK; clear HB; have HO128 := n0_; have HI0 := n1_; have HK := n2_; have HB := n3_; clear n0_ n1_ n2_ n3_; clear hb ho3) | ((with_reducible refine gate_dst (N := 10) rfl ?_); (try (refine gate_guard (by rfl) ?_; dsimp only)); refine Kd.R_lit Kd.string _ 9 ?hg (N := 10) ?hd (xs := ([(⟨#[97]⟩ : ByteArray), (⟨#[98]⟩ : ByteArray), (⟨#[99]⟩ : ByteArray), (⟨#[100]⟩ : ByteArray), (⟨#[101]⟩ : ByteArray), (⟨#[102]⟩ : ByteArray)] : List ByteArray)) (inner := [.string (⟨#[97]⟩ : ByteArray), .string (⟨#[98]⟩ : ByteArray), .string (⟨#[99]⟩ : ByteArray), .string (⟨#[100]⟩ : ByteArray), .string (⟨#[101]⟩ : ByteArray), .string (⟨#[102]⟩ : ByteArray)]) (ok := fun _ => True) (okp := fun _ => True) ?hr ?hp (fun _ hk => hk) trivial (Below.refl _ _) (Nat.le_refl _) (by simp) ?_; (case hd => rfl); (case hg => rfl); (case hr => first | (go_simp; done) | (go_simp; rfl)); (case hp => exact (Reps.one (show Kd.M Kd.string _ _ _ (⟨#[97]⟩ : ByteArray) [.string (⟨#[97]⟩ : ByteArray)] from rfl) (Reps.one (show Kd.M Kd.string _ _ _ (⟨#[98]⟩ : ByteArray) [.string (⟨#[98]⟩ : ByteArray)] from rfl) (Reps.one (show Kd.M Kd.string _ _ _ (⟨#[99]⟩ : ByteArray) [.string (⟨#[99]⟩ : ByteArray)] from rfl) (Reps.one (show Kd.M Kd.string _ _ _ (⟨#[100]⟩ : ByteArray) [.string (⟨#[100]⟩ : ByteArray)] from rfl) (Reps.one (show Kd.M Kd.string _ _ _ (⟨#[101]⟩ : ByteArray) [.string (⟨#[101]⟩ : ByteArray)] from rfl) (Reps.one (show Kd.M Kd.string _ _ _ (⟨#[102]⟩ : ByteArray) [.string (⟨#[102]⟩ : ByteArray)] from rfl) (Reps.none _ _)))))))); intro v130 w4 ho5 hb hg_ hnew_; clear hg_ hnew_; (first | rw [← Ny129.out] at ho5 | (simp only [Int.reduceToNat] at ho5; rw [← Ny129.out] at ho5)); have n0_ := am (Kd.S_elder' (by (with_reducible repeat (first | apply Sa | apply Sb | apply Sc)); exact HO128.out) (Kd.R_base ho5) hb); have n1_ := am (Kd.R_lower ho5 (keep_size (w := w) (g := g) (row := none) (by repeat (first | (with_reducible first | exact HK.out | apply Ke | apply Ka | apply Kb | apply Kc) | exact HK.out)))); have n2_ := am (IsS84.below (by repeat (first | (with_reducible first | exact HI0.out | apply Ia | apply Ib | apply Ic | apply Ih | apply Ie) | exact HI0.out)) hb); have n3_ := am (KeepBut.trans (by repeat (first | (with_reducible first | exact HK.out | apply Ke | apply Ka | apply Kb | apply Kc) | exact HK.out)) (KeepBut.of_below hb g none) (.inl rfl)); have n4_ := am (below_step (by repeat (first | (with_reducible first | exact HB.out | apply Bb | apply Ba | apply Bc | refine Bd ?_ (IsS84.ge HI0.out)) | exact HB.out)) hb); clear HO128; clear HI0; clear HK; clear HB; have HO128 := n0_; have HO131 := n1_; have HI0 := n2_; have HK := n3_; have HB := n4_; clear n0_ n1_ n2_ n3_ n4_; clear hb ho5))
 go_loopg [3, 5] k (fun kq v3 v5 w' => ∃ (x3_1 : List (S32)) (x5_1 : Int) (x1001_1 : Int) (x1002_1 : Int), v5 = .int .i64 x5_1 ∧ Aside0 (spec_l18Draw.l0 kq x3_1 y129 x5_1 s0_0 x1001_1 x1002_1 = some (r1, r2, r3)) ∧ Aside0 (kq ≤ k) ∧ Aside0 (Kd.S k32 32 w' w.heap.size (fun k_ => some k_ ≠ (v130 : Value).ownBlock) v3 x3_1) ∧ Aside0 (Kd.R Kd.string 9 w' w.heap.size (fun _ => True) v130 y129) ∧ Aside0 (IsS84 w0 w' g s0_0 x1001_1 x1002_1) ∧ Aside0 (KeepBut w w' g none) ∧ Aside0 (Below w0.heap.size w0 w'))
 case atStart => exact ⟨(y126), (0), (s0_1), (s0_2), (by first | rfl | (simp; done) | (simp [*]; done)), H', ⟨Nat.le_refl _⟩, ⟨by (with_reducible repeat (first | apply Sa | apply Sb | apply Sc)); exact Kd.S_mono HO128.out (fun _ hk => hk.2)⟩, ⟨by (with_reducible repeat (first | apply Ra | apply Rb | apply Rc)); exact HO131.out⟩, ⟨by repeat (first | (with_reducible first | exact HI0.out | apply Ia | apply Ib | apply Ic | apply Ih | apply Ie) | exact HI0.out)⟩, ⟨by repeat (first | (with_reducible first | exact HK.out | apply Ke | apply Ka | apply Kb | apply Kc) | exact HK.out)⟩, ⟨by repeat (first | (with_reducible first | exact HB.out | apply Bb | apply Ba | apply Bc | refine Bd ?_ (IsS84.ge HI0.out)) | exact HB.out)⟩⟩
 case round =>
  clear H'
  try clear p2
  try clear c4
  obtain ⟨x3_1, x5_1, x1001_1, x1002_1, rfl, HA, HK1, HO_3, HO_4, HI0, HK, HB⟩ := hrel
  cases gk with
  | zero => exact absurd HA.out (by simp [spec_l18Draw.l0])
  | succ k1 =>
   have H := HA.out
   clear HA
   simp only [spec_l18Draw.l0] at H
   by_cases c6 : x5_1 < (y129.length : Int)
   ·
    rw [if_pos c6] at H
    have c6b0 : decide (x5_1 < (y129.length : Int)) = true := decide_eq_true c6
    clear c6
    replace H := Option.bind_eq_some_iff.mp H
    obtain ⟨⟨t132, t133, t134⟩, A70, H⟩ := H
    replace H : (if t132 = true then (spec_l18Draw.l0 k1 x3_1 y129 (wrap64 (x5_1 + 1)) s0_0 t133 t134) else (if 0 ≤ x5_1 then ((spec_l1Below.f s0_0 t133 t134 2).bind fun bt136 => ((spec_l2Int.f k1 bt136.1).bind fun t139 => (if 4 + t139.size ≤ 9223372036854775807 then ((spec_l1Once.f s0_0 bt136.2.1 bt136.2.2 4).bind fun bt140 => (spec_l18Draw.l1 k1 x3_1 y129 x5_1 0 s0_0 bt140.2.1 bt140.2.2 (rdOf ByteArray.empty y129 x5_1) ([] : List ByteArray) ([] : List ByteArray) ((⟨#[114, 117, 110, 32]⟩ : ByteArray) ++ t139) bt140.1)) else (none)))) else (none))) = some (r1, r2, r3) := H
    have A7 := am A70
    clear A70
    by_cases c8 : t132 = true
    ·
     subst c8
     have H1 : (spec_l18Draw.l0 k1 x3_1 y129 (wrap64 (x5_1 + 1)) s0_0 t133 t134) = some (r1, r2, r3) := by rw [if_pos rfl] at H; exact H
     clear H
     have H := H1
     clear H1
     have H' := am H
     clear H
     obtain ⟨Ao9, co9, eo9⟩ := Kd.R_slice HO_4.out
     subst eo9
     go_wp2_with (first | ((with_reducible refine gate_callee (f := 60) rfl ?_); refine goesL_ (some 18) rfl rfl Try.func60 (by kernel_rfl) rfl #[.pointer (some ⟨g, 0, none⟩), .int .i64 4] rfl (by (try simp only [List.map_toArray, List.map_cons, List.map_nil]); first | done | rfl | (simp only [List.length_drop, List.length_take]; rfl)) ?_; (with_reducible refine (spec_l1Once.calls g s0_0 x1001_1 x1002_1 4 true t133 t134 w0 _ ?side1 ?side2 A7.out).mono ?_); (case side1 => repeat (first | (with_reducible first | exact HI0.out | apply Ia | apply Ib | apply Ic | apply Ih | apply Ie) | exact HI0.out)); (case side2 => repeat (first | (with_reducible first | exact HB.out | apply Bb | apply Ba | apply Bc | refine Bd ?_ (IsS84.ge HI0.out)) | exact HB.out)); rintro e w10 ⟨rfl, hi, hb, hk⟩; refine ⟨_, rfl, ?_⟩; have n0_ := am (Kd.S_mono (Kd.S_keep (Ij (show IsS84 w0 _ g s0_0 x1001_1 x1002_1 from by repeat (first | (with_reducible first | exact HI0.out | apply Ia | apply Ib | apply Ic | apply Ih | apply Ie) | exact HI0.out)) (by (with_reducible repeat (first | apply Sa | apply Sb | apply Sc)); exact HO_3.out) (by decide)) hk (fun _ h => h.2)) (fun _ h => h.1)); have n1_ := am (Kd.R_mono (Kd.R_keep (Ig (show IsS84 w0 _ g s0_0 x1001_1 x1002_1 from by repeat (first | (with_reducible first | exact HI0.out | apply Ia | apply Ib | apply Ic | apply Ih | apply Ie) | exact HI0.out)) (by (with_reducible repeat (first | apply Ra | apply Rb | apply Rc)); exact HO_4.out) (by decide)) hk (fun _ h => h.2)) (fun _ h => h.1)); have n2_ := am (KeepBut.trans (by repeat (first | (with_reducible first | exact HK.out | apply Ke | apply Ka | apply Kb | apply Kc) | exact HK.out)) hk (.inl rfl)); have n3_ := am (hb); have n4_ := am (hi); clear HO_3; clear HO_4; clear HK; clear HB; clear HI0; have HO_3 := n0_; have HO_4 := n1_; have HK := n2_; have HB := n3_; have HI0 := n4_; clear n0_ n1_ n2_ n3_ n4_; (try clear hb); (try clear hb2); (try clear hk); (try clear hi)))
     go_roundg k1
     case measure => have := HK1.out; omega
     case rel => exact ⟨(x3_1), (wrap64 (x5_1 + 1)), (t133), (t134), (by first | rfl | (simp; done) | (simp [*]; done)), H', ⟨by have := HK1.out; omega⟩, ⟨by (with_reducible repeat (first | apply Sa | apply Sb | apply Sc)); exact HO_3.out⟩, ⟨by (with_reducible repeat (first | apply Ra | apply Rb | apply Rc)); exact HO_4.out⟩, ⟨by repeat (first | (with_reducible first | exact HI0.out | apply Ia | apply Ib | apply Ic | apply Ih | apply Ie) | exact HI0.out)⟩, ⟨by repeat (first | (with_reducible first | exact HK.out | apply Ke | apply Ka | apply Kb | apply Kc) | exact HK.out)⟩, ⟨by repeat (first | (with_reducible first | exact HB.out | apply Bb | apply Ba | apply Bc | refine Bd ?_ (IsS84.ge HI0.out)) | exact HB.out)⟩⟩
    ·
     replace c8 := Bool.eq_false_iff.mpr c8
     subst c8
     have H1 : (if 0 ≤ x5_1 then ((spec_l1Below.f s0_0 t133 t134 2).bind fun bt136 => ((spec_l2Int.f k1 bt136.1).bind fun t139 => (if 4 + t139.size ≤ 9223372036854775807 then ((spec_l1Once.f s0_0 bt136.2.1 bt136.2.2 4).bind fun bt140 => (spec_l18Draw.l1 k1 x3_1 y129 x5_1 0 s0_0 bt140.2.1 bt140.2.2 (rdOf ByteArray.empty y129 x5_1) ([] : List ByteArray) ([] : List ByteArray) ((⟨#[114, 117, 110, 32]⟩ : ByteArray) ++ t139) bt140.1)) else (none)))) else (none)) = some (r1, r2, r3) := by rw [if_neg (show ¬ (false = true) by decide)] at H; exact H
     clear H
     have H := H1
     clear H1
     by_cases c11 : 0 ≤ x5_1
     ·
      rw [if_pos c11] at H
      have c11b0 : decide (0 ≤ x5_1) = true := decide_eq_true c11
      clear c11
      replace H := Option.bind_eq_some_iff.mp H
      obtain ⟨⟨t136, t137, t138⟩, A120, H⟩ := H
      replace H : ((spec_l2Int.f k1 t136).bind fun t139 => (if 4 + t139.size ≤ 9223372036854775807 then ((spec_l1Once.f s0_0 t137 t138 4).bind fun bt140 => (spec_l18Draw.l1 k1 x3_1 y129 x5_1 0 s0_0 bt140.2.1 bt140.2.2 (rdOf ByteArray.empty y129 x5_1) ([] : List ByteArray) ([] : List ByteArray) ((⟨#[114, 117, 110, 32]⟩ : ByteArray) ++ t139) bt140.1)) else (none))) = some (r1, r2, r3) := H
      have A12 := am A120
      clear A120
      replace H := Option.bind_eq_some_iff.mp H
      obtain ⟨t139, A130, H⟩ := H
      replace H : (if 4 + t139.size ≤ 9223372036854775807 then ((spec_l1Once.f s0_0 t137 t138 4).bind fun bt140 => (spec_l18Draw.l1 k1 x3_1 y129 x5_1 0 s0_0 bt140.2.1 bt140.2.2 (rdOf ByteArray.empty y129 x5_1) ([] : List ByteArray) ([] : List ByteArray) ((⟨#[114, 117, 110, 32]⟩ : ByteArray) ++ t139) bt140.1)) else (none)) = some (r1, r2, r3) := H
      have A13 := am A130
      clear A130
      by_cases c14 : 4 + t139.size ≤ 9223372036854775807
      ·
       rw [if_pos c14] at H
       have c14b0 := eq_true c14
       have c14b1 : decide (4 + t139.size ≤ 9223372036854775807) = true := decide_eq_true c14
       try have c14b2 : (9223372036854775807 < 4 + t139.size) = False := eq_false (Nat.not_lt.2 c14)
       replace H := Option.bind_eq_some_iff.mp H
       obtain ⟨⟨t140, t141, t142⟩, A150, H⟩ := H
       replace H : (spec_l18Draw.l1 k1 x3_1 y129 x5_1 0 s0_0 t141 t142 (rdOf ByteArray.empty y129 x5_1) ([] : List ByteArray) ([] : List ByteArray) ((⟨#[114, 117, 110, 32]⟩ : ByteArray) ++ t139) t140) = some (r1, r2, r3) := H
       have A15 := am A150
       clear A150
       have H' := am H
       clear H
       obtain ⟨Ao16, co16, eo16⟩ := Kd.R_slice HO_4.out
       subst eo16
       try go_wp2_with (first | ((with_reducible refine gate_callee (f := 60) rfl ?_); refine goesL_ (some 18) rfl rfl Try.func60 (by kernel_rfl) rfl #[.pointer (some ⟨g, 0, none⟩), .int .i64 4] rfl (by (try simp only [List.map_toArray, List.map_cons, List.map_nil]); first | done | rfl | (simp only [List.length_drop, List.length_take]; rfl)) ?_; (with_reducible refine (spec_l1Once.calls g s0_0 x1001_1 x1002_1 4 false t133 t134 w0 _ ?side1 ?side2 A7.out).mono ?_); (case side1 => repeat (first | (with_reducible first | exact HI0.out | apply Ia | apply Ib | apply Ic | apply Ih | apply Ie) | exact HI0.out)); (case side2 => repeat (first | (with_reducible first | exact HB.out | apply Bb | apply Ba | apply Bc | refine Bd ?_ (IsS84.ge HI0.out)) | exact HB.out)); rintro e w17 ⟨rfl, hi, hb, hk⟩; refine ⟨_, rfl, ?_⟩; have n0_ := am (Kd.S_mono (Kd.S_keep (Ij (show IsS84 w0 _ g s0_0 x1001_1 x1002_1 from by repeat (first | (with_reducible first | exact HI0.out | apply Ia | apply Ib | apply Ic | apply Ih | apply Ie) | exact HI0.out)) (by (with_reducible repeat (first | apply Sa | apply Sb | apply Sc)); exact HO_3.out) (by decide)) hk (fun _ h => h.2)) (fun _ h => h.1)); have n1_ := am (Kd.R_mono (Kd.R_keep (Ig (show IsS84 w0 _ g s0_0 x1001_1 x1002_1 from by repeat (first | (with_reducible first | exact HI0.out | apply Ia | apply Ib | apply Ic | apply Ih | apply Ie) | exact HI0.out)) (by (with_reducible repeat (first | apply Ra | apply Rb | apply Rc)); exact HO_4.out) (by decide)) hk (fun _ h => h.2)) (fun _ h => h.1)); have n2_ := am (KeepBut.trans (by repeat (first | (with_reducible first | exact HK.out | apply Ke | apply Ka | apply Kb | apply Kc) | exact HK.out)) hk (.inl rfl)); have n3_ := am (hb); have n4_ := am (hi); clear HO_3; clear HO_4; clear HK; clear HB; clear HI0; have HO_3 := n0_; have HO_4 := n1_; have HK := n2_; have HB := n3_; have HI0 := n4_; clear n0_ n1_ n2_ n3_ n4_; (try clear hb); (try clear hb2); (try clear hk); (try clear hi)))
       have n0_ := am (Sc HO_3.out)
       have n1_ := am (Rc HO_4.out)
       have n2_ := am (Ic HI0.out)
       have n3_ := am (Kb HK.out)
       have n4_ := am (Bc HB.out)
       clear HO_3
       clear HO_4
       clear HI0
       clear HK
       clear HB
       have HO_3 := n0_
       have HO_4 := n1_
       have HI0 := n2_
       have HK := n3_
       have HB := n4_
       clear n0_ n1_ n2_ n3_ n4_
       have p135 : 0 ≤ (x5_1 : Int) := of_decide_eq_true (by first | (with_reducible assumption) | assumption)
       have q135 : x5_1 < (y129.length : Int) := of_decide_eq_true (by first | (with_reducible assumption) | assumption)
       obtain ⟨ad135, e135, hx135_0⟩ := Kd.at_string (Kd.R_reads' HO_4.out).2.2 x5_1 p135 q135
       cases e135
       replace p135 := eq_true p135
       replace q135 := eq_true q135
       refine start_ (n := 13) (S := fun w' => w'.cell? (ad135.add (x5_1).toNat) = some (.string (rdOf ByteArray.empty y129 x5_1))) (ds := []) #[false, false, false, false, false, false, false, false, false, false, false, false, false] (by kernel_rfl) rfl rfl (hx135_0) (fun hHeld => ?_); refine with_tabW spec_l18Draw.tab7 spec_l18Draw.bits7 (fun HT_ HW_ => ?_)
       generalize w17.drew = w18 at HO_3 HO_4 HI0 HK HB hx135_0 hHeld ⊢
       refine pure_ (i := 0) (N := some 19) (v := ?_) (a' := ?_) #[true, false, false, false, false, false, false, false, false, false, false, false, false] rfl rfl (any_of HT_.out (by kernel_rfl)) (fun _ _ _ h => h) (Or.inl ⟨by rfl, ?_⟩) ?_ ?_
       rotate_left
       ·
        intro w'
        go_simp
        with_reducible rfl
       rotate_left
       ·
        simp only [Act.put, List.setIfInBounds_toArray, List.set_cons_zero, List.set_cons_succ, i64_w, i32_w]
        rfl
       refine pure_ (i := 1) (N := some 20) (v := ?_) (a' := ?_) #[true, true, false, false, false, false, false, false, false, false, false, false, false] rfl rfl (any_of HT_.out (by kernel_rfl)) (fun _ _ _ h => h) (Or.inl ⟨by rfl, ?_⟩) ?_ ?_
       rotate_left
       ·
        intro w'
        go_simp
        with_reducible rfl
       rotate_left
       ·
        simp only [Act.put, List.setIfInBounds_toArray, List.set_cons_zero, List.set_cons_succ, i64_w, i32_w]
        rfl
       refine pure_ (i := 2) (N := some 21) (v := ?_) (a' := ?_) #[true, true, true, false, false, false, false, false, false, false, false, false, false] rfl rfl (any_of HT_.out (by kernel_rfl)) (fun _ _ _ h => h) (Or.inl ⟨by rfl, ?_⟩) ?_ ?_
       rotate_left
       ·
        intro w'
        go_simp
        with_reducible rfl
       rotate_left
       ·
        simp only [Act.put, List.setIfInBounds_toArray, List.set_cons_zero, List.set_cons_succ, i64_w, i32_w]
        rfl
       refine pure_ (i := 4) (N := some 23) (v := ?_) (a' := ?_) #[true, true, true, false, true, false, false, false, false, false, false, false, false] rfl rfl (any_of HT_.out (by kernel_rfl)) (fun _ _ _ h => h) (Or.inl ⟨by rfl, ?_⟩) ?_ ?_
       rotate_left
       ·
        intro w'
        go_simp
        with_reducible rfl
       rotate_left
       ·
        simp only [Act.put, List.setIfInBounds_toArray, List.set_cons_zero, List.set_cons_succ, i64_w, i32_w]
        rfl
       refine pure_ (i := 8) (N := some 27) (v := ?_) (a' := ?_) #[true, true, true, false, true, false, false, false, true, false, false, false, false] rfl rfl (any_of HT_.out (by kernel_rfl)) (fun _ _ _ h => h) (Or.inl ⟨by rfl, ?_⟩) ?_ ?_
       rotate_left
       ·
        intro w'
        go_simp
        with_reducible rfl
       rotate_left
       ·
        simp only [Act.put, List.setIfInBounds_toArray, List.set_cons_zero, List.set_cons_succ, i64_w, i32_w]
        rfl
       refine take_ (i := 3) (N := some 22) (v := ?_) (a' := ?_) #[true, true, true, true, true, false, false, false, true, false, false, false, false] rfl rfl (take_ofW HT_.out HW_.out (by kernel_rfl)) (fun _ _ _ h => h) (Or.inl ⟨by rfl, ?_⟩) hHeld ?_ ?_
       rotate_left
       ·
        intro w' s0
        go_simp
        with_reducible rfl
       rotate_left
       ·
        simp only [Act.put, List.setIfInBounds_toArray, List.set_cons_zero, List.set_cons_succ, i64_w, i32_w]
        rfl
       refine join_ (σ := Nat) 1 #[true, true, true, true, true, true, true, true, true, true, true, true, false] (fun s_ => [(24, .int .i64 t136), (25, .string t139), (28, .bool t140), (6, .pointer (some ⟨s_, 0, none⟩)), (26, .string ((⟨#[114, 117, 110, 32]⟩ : ByteArray) ++ t139)), (29, .agg #[.string (rdOf ByteArray.empty y129 x5_1), .slice none 0 0, .slice none 0 0, .string ((⟨#[114, 117, 110, 32]⟩ : ByteArray) ++ t139), .bool t140])]) (fun s_ w' => (w'.cell? (ad135.add (x5_1).toNat) = some (.string (rdOf ByteArray.empty y129 x5_1))) ∧ (Kd.S k32 32 w' w.heap.size (fun k_ => some k_ ≠ (.slice (some ad135) y129.length co16 : Value).ownBlock ∧ k_ ≠ s_) u3 x3_1) ∧ (Kd.R Kd.string 9 w' w.heap.size (fun _ => True) (.slice (some ad135) y129.length co16) y129) ∧ (w'.heap[s_]? = some (.cells #[.string (⟨#[]⟩ : ByteArray), .slice none 0 0, .slice none 0 0, .string (⟨#[]⟩ : ByteArray), .bool false] 32 (0, 0))) ∧ (w.heap.size ≤ s_) ∧ (w0.heap.size ≤ s_) ∧ (g ≠ s_) ∧ (s_ ≠ g) ∧ (IsS84 w0 w' g s0_0 t141 t142) ∧ (KeepBut w w' g none) ∧ (Below w0.heap.size w0 w')) ?_ ?_
       rotate_left
       ·
        intro hCont
        refine two_ (i := 5) (j := 11) (Ni := some 24) (Nj := some 6) #[true, true, true, true, true, true, false, false, true, false, false, false, false] #[true, true, true, true, true, false, false, false, true, false, false, true, false] rfl rfl rfl rfl (two_of HT_.out (by kernel_rfl)) (by decide) (by decide) (fun K hK => ?_) (fun K hK => ?_)
        ·
         skip
         refine goes_ Try.func61 (by kernel_rfl) rfl #[.pointer (some ⟨g, 0, none⟩), .int .i64 2] (by rfl) rfl rfl (by (try simp only [List.map_toArray, List.map_cons, List.map_nil]); first | done | rfl | (simp only [List.length_drop, List.length_take]; rfl)) ?_
         with_reducible refine (spec_l1Below.calls g s0_0 t133 t134 2 t136 t137 t138 w0 _ ?side1 ?side2 A12.out).mono ?_
         (case side1 => repeat (first | (with_reducible first | exact HI0.out | apply Ia | apply Ib | apply Ic | apply Ih | apply Ie) | exact HI0.out))
         (case side2 => repeat (first | (with_reducible first | exact HB.out | apply Bb | apply Ba | apply Bc | refine Bd ?_ (IsS84.ge HI0.out)) | exact HB.out))
         rintro e w19 ⟨rfl, hi, hb, hk⟩
         have HS0_ := keep_cell hk (hHeld) (by first | (rw [add_block]; exact Kd.own_blk (IsS84.own_ne HI0.out HO_4.out (by decide))) | (show (Addr.add _ _).block ≠ _; rw [add_block]; exact Kd.own_blk (IsS84.own_ne HI0.out HO_4.out (by decide))) | exact Kd.own_blk (IsS84.own_ne HI0.out HO_4.out (by decide)))
         refine ⟨_, rfl, ?_⟩
         have n0_ := am (Kd.S_mono (Kd.S_keep (Ij (show IsS84 w0 _ g s0_0 t133 t134 from by repeat (first | (with_reducible first | exact HI0.out | apply Ia | apply Ib | apply Ic | apply Ih | apply Ie) | exact HI0.out)) (by (with_reducible repeat (first | apply Sa | apply Sb | apply Sc)); exact HO_3.out) (by decide)) hk (fun _ h => h.2)) (fun _ h => h.1))
         have n1_ := am (Kd.R_mono (Kd.R_keep (Ig (show IsS84 w0 _ g s0_0 t133 t134 from by repeat (first | (with_reducible first | exact HI0.out | apply Ia | apply Ib | apply Ic | apply Ih | apply Ie) | exact HI0.out)) (by (with_reducible repeat (first | apply Ra | apply Rb | apply Rc)); exact HO_4.out) (by decide)) hk (fun _ h => h.2)) (fun _ h => h.1))
         have n2_ := am (KeepBut.trans (by repeat (first | (with_reducible first | exact HK.out | apply Ke | apply Ka | apply Kb | apply Kc) | exact HK.out)) hk (.inl rfl))
         have n3_ := am (hb)
         have n4_ := am (hi)
         clear HO_3
         clear HO_4
         clear HK
         clear HB
         clear HI0
         have HO_3 := n0_
         have HO_4 := n1_
         have HK := n2_
         have HB := n3_
         have HI0 := n4_
         clear n0_ n1_ n2_ n3_ n4_
         (try clear hb)
         (try clear hb2)
         (try clear hk)
         (try clear hi)
         refine hK.out _ _ (HS0_) (fun hHeld => ?_)
         clear hK K
         refine norm_ (a' := ?_) ?_ ?_
         rotate_left
         ·
          show Act.put _ (some 24) _ = _
          simp only [Act.put, List.setIfInBounds_toArray, List.set_cons_zero, List.set_cons_succ, i64_w, i32_w]
          rfl
         refine two_ (i := 6) (j := 11) (Ni := some 25) (Nj := some 6) #[true, true, true, true, true, true, true, false, true, false, false, false, false] #[true, true, true, true, true, true, false, false, true, false, false, true, false] rfl rfl rfl rfl (two_of HT_.out (by kernel_rfl)) (by decide) (by decide) (fun K hK => ?_) (fun K hK => ?_)
         ·
          skip
          refine goes_ Try.func68 (by kernel_rfl) rfl #[.int .i64 t136] (by rfl) rfl rfl (by (try simp only [List.map_toArray, List.map_cons, List.map_nil]); first | done | rfl | (simp only [List.length_drop, List.length_take]; rfl)) ?_
          with_reducible refine (spec_l2Int.calls k1 t136 t139 _ A13.out).mono ?_
          rintro e w20 ⟨rfl, hb⟩
          have HS0_ := (hb.cell (World.block_lt_of_cell? _ _ (hHeld))).trans (hHeld)
          refine ⟨_, rfl, ?_⟩
          have n0_ := am (Kd.S_below (by (with_reducible repeat (first | apply Sa | apply Sb | apply Sc)); exact HO_3.out) hb)
          have n1_ := am (Kd.R_below (by (with_reducible repeat (first | apply Ra | apply Rb | apply Rc)); exact HO_4.out) hb)
          have n2_ := am (IsS84.below (by repeat (first | (with_reducible first | exact HI0.out | apply Ia | apply Ib | apply Ic | apply Ih | apply Ie) | exact HI0.out)) hb)
          have n3_ := am (KeepBut.trans (by repeat (first | (with_reducible first | exact HK.out | apply Ke | apply Ka | apply Kb | apply Kc) | exact HK.out)) (KeepBut.of_below hb g none) (.inl rfl))
          have n4_ := am (below_step (by repeat (first | (with_reducible first | exact HB.out | apply Bb | apply Ba | apply Bc | refine Bd ?_ (IsS84.ge HI0.out)) | exact HB.out)) hb)
          clear HO_3
          clear HO_4
          clear HI0
          clear HK
          clear HB
          have HO_3 := n0_
          have HO_4 := n1_
          have HI0 := n2_
          have HK := n3_
          have HB := n4_
          clear n0_ n1_ n2_ n3_ n4_
          (try clear hb)
          (try clear hb2)
          (try clear hk)
          (try clear hi)
          refine hK.out _ _ (HS0_) (fun hHeld => ?_)
          clear hK K
          refine norm_ (a' := ?_) ?_ ?_
          rotate_left
          ·
           show Act.put _ (some 25) _ = _
           simp only [Act.put, List.setIfInBounds_toArray, List.set_cons_zero, List.set_cons_succ, i64_w, i32_w]
           rfl
          refine pure_ (i := 7) (N := some 26) (v := ?_) (a' := ?_) #[true, true, true, true, true, true, true, true, true, false, false, false, false] rfl rfl (any_of HT_.out (by kernel_rfl)) (fun _ _ _ h => h) (Or.inl ⟨by rfl, ?_⟩) ?_ ?_
          rotate_left
          ·
           intro w'
           go_simp
           with_reducible rfl
          rotate_left
          ·
           simp only [Act.put, List.setIfInBounds_toArray, List.set_cons_zero, List.set_cons_succ, i64_w, i32_w]
           rfl
          refine two_ (i := 9) (j := 11) (Ni := some 28) (Nj := some 6) #[true, true, true, true, true, true, true, true, true, true, false, false, false] #[true, true, true, true, true, true, true, true, true, false, false, true, false] rfl rfl rfl rfl (two_of HT_.out (by kernel_rfl)) (by decide) (by decide) (fun K hK => ?_) (fun K hK => ?_)
          ·
           skip
           refine goes_ Try.func60 (by kernel_rfl) rfl #[.pointer (some ⟨g, 0, none⟩), .int .i64 4] (by rfl) rfl rfl (by (try simp only [List.map_toArray, List.map_cons, List.map_nil]); first | done | rfl | (simp only [List.length_drop, List.length_take]; rfl)) ?_
           with_reducible refine (spec_l1Once.calls g s0_0 t137 t138 4 t140 t141 t142 w0 _ ?side1 ?side2 A15.out).mono ?_
           (case side1 => repeat (first | (with_reducible first | exact HI0.out | apply Ia | apply Ib | apply Ic | apply Ih | apply Ie) | exact HI0.out))
           (case side2 => repeat (first | (with_reducible first | exact HB.out | apply Bb | apply Ba | apply Bc | refine Bd ?_ (IsS84.ge HI0.out)) | exact HB.out))
           rintro e w21 ⟨rfl, hi, hb, hk⟩
           have HS0_ := keep_cell hk (hHeld) (by first | (rw [add_block]; exact Kd.own_blk (IsS84.own_ne HI0.out HO_4.out (by decide))) | (show (Addr.add _ _).block ≠ _; rw [add_block]; exact Kd.own_blk (IsS84.own_ne HI0.out HO_4.out (by decide))) | exact Kd.own_blk (IsS84.own_ne HI0.out HO_4.out (by decide)))
           refine ⟨_, rfl, ?_⟩
           have n0_ := am (Kd.S_mono (Kd.S_keep (Ij (show IsS84 w0 _ g s0_0 t137 t138 from by repeat (first | (with_reducible first | exact HI0.out | apply Ia | apply Ib | apply Ic | apply Ih | apply Ie) | exact HI0.out)) (by (with_reducible repeat (first | apply Sa | apply Sb | apply Sc)); exact HO_3.out) (by decide)) hk (fun _ h => h.2)) (fun _ h => h.1))
           have n1_ := am (Kd.R_mono (Kd.R_keep (Ig (show IsS84 w0 _ g s0_0 t137 t138 from by repeat (first | (with_reducible first | exact HI0.out | apply Ia | apply Ib | apply Ic | apply Ih | apply Ie) | exact HI0.out)) (by (with_reducible repeat (first | apply Ra | apply Rb | apply Rc)); exact HO_4.out) (by decide)) hk (fun _ h => h.2)) (fun _ h => h.1))
           have n2_ := am (KeepBut.trans (by repeat (first | (with_reducible first | exact HK.out | apply Ke | apply Ka | apply Kb | apply Kc) | exact HK.out)) hk (.inl rfl))
           have n3_ := am (hb)
           have n4_ := am (hi)
           clear HO_3
           clear HO_4
           clear HK
           clear HB
           clear HI0
           have HO_3 := n0_
           have HO_4 := n1_
           have HK := n2_
           have HB := n3_
           have HI0 := n4_
           clear n0_ n1_ n2_ n3_ n4_
           (try clear hb)
           (try clear hb2)
           (try clear hk)
           (try clear hi)
           refine hK.out _ _ (HS0_) (fun hHeld => ?_)
           clear hK K
           refine norm_ (a' := ?_) ?_ ?_
           rotate_left
           ·
            show Act.put _ (some 28) _ = _
            simp only [Act.put, List.setIfInBounds_toArray, List.set_cons_zero, List.set_cons_succ, i64_w, i32_w]
            rfl
           refine pure_ (i := 10) (N := some 29) (v := ?_) (a' := ?_) #[true, true, true, true, true, true, true, true, true, true, true, false, false] rfl rfl (any_of HT_.out (by kernel_rfl)) (fun _ _ _ h => h) (Or.inl ⟨by rfl, ?_⟩) ?_ ?_
           rotate_left
           ·
            intro w'
            go_simp
            with_reducible rfl
           rotate_left
           ·
            simp only [Act.put, List.setIfInBounds_toArray, List.set_cons_zero, List.set_cons_succ, i64_w, i32_w]
            rfl
           refine one_ (i := 11) (N := some 6) #[true, true, true, true, true, true, true, true, true, true, true, true, false] rfl rfl (one_of HT_.out (by kernel_rfl)) (by decide) (fun K hK => ?_)
           refine box_step ?hg (N := 6) ?hd (cs := #[.string (⟨#[]⟩ : ByteArray), .slice none 0 0, .slice none 0 0, .string (⟨#[]⟩ : ByteArray), .bool false]) (t := 32) ?hr ?_; (case hd => rfl); (case hg => rfl); (case hr => first | (go_simp; done) | (go_simp; rfl))
           intro gb143 hg w22 hbox hb
           have HS0_ := (hb.cell (World.block_lt_of_cell? _ _ (hHeld))).trans (hHeld)
           have n0_ := am (Kd.S_below (Kd.S_elderB (by (with_reducible repeat (first | apply Sa | apply Sb | apply Sc)); exact HO_3.out) gb143 (Nat.le_of_eq hg.symm)) hb)
           have n1_ := am (Kd.R_below (by (with_reducible repeat (first | apply Ra | apply Rb | apply Rc)); exact HO_4.out) hb)
           have n2_ := am (IsS84.below (by repeat (first | (with_reducible first | exact HI0.out | apply Ia | apply Ib | apply Ic | apply Ih | apply Ie) | exact HI0.out)) hb)
           have n3_ := am (KeepBut.trans (by repeat (first | (with_reducible first | exact HK.out | apply Ke | apply Ka | apply Kb | apply Kc) | exact HK.out)) (KeepBut.of_below hb g none) (.inl rfl))
           have n4_ := am (below_step (by repeat (first | (with_reducible first | exact HB.out | apply Bb | apply Ba | apply Bc | refine Bd ?_ (IsS84.ge HI0.out)) | exact HB.out)) hb)
           have n5_ := am (hbox)
           have n6_ := am ((by rw [hg]; exact (keep_size (w := w) (g := g) (row := none) (by repeat (first | (with_reducible first | exact HK.out | apply Ke | apply Ka | apply Kb | apply Kc) | exact HK.out))) : w.heap.size ≤ gb143))
           have n7_ := am ((Nat.le_trans HW0.out (by rw [hg]; exact (keep_size (w := w) (g := g) (row := none) (by repeat (first | (with_reducible first | exact HK.out | apply Ke | apply Ka | apply Kb | apply Kc) | exact HK.out))) : w.heap.size ≤ gb143) : w0.heap.size ≤ gb143))
           have n8_ := am ((by rw [hg]; exact Nat.ne_of_lt (IsS84.lt (show IsS84 w0 _ g s0_0 t141 t142 from by repeat (first | (with_reducible first | exact HI0.out | apply Ia | apply Ib | apply Ic | apply Ih | apply Ie) | exact HI0.out))) : g ≠ gb143))
           have n9_ := am ((by rw [hg]; exact Nat.ne_of_gt (IsS84.lt (show IsS84 w0 _ g s0_0 t141 t142 from by repeat (first | (with_reducible first | exact HI0.out | apply Ia | apply Ib | apply Ic | apply Ih | apply Ie) | exact HI0.out))) : gb143 ≠ g))
           clear HO_3
           clear HO_4
           clear HI0
           clear HK
           clear HB
           have HO_3 := n0_
           have HO_4 := n1_
           have HI0 := n2_
           have HK := n3_
           have HB := n4_
           have BK143 := n5_
           have GW143 := n6_
           have GE143 := n7_
           have NB0_143 := n8_
           have NB143_0 := n9_
           clear n0_ n1_ n2_ n3_ n4_ n5_ n6_ n7_ n8_ n9_
           clear hb hbox hg
           refine hK.out _ _ (HS0_) (fun hHeld => ?_)
           clear hK K
           refine norm_ (a' := ?_) ?_ ?_
           rotate_left
           ·
            show Act.put _ (some 6) _ = _
            simp only [Act.put, List.setIfInBounds_toArray, List.set_cons_zero, List.set_cons_succ, i64_w, i32_w]
            rfl
           exact norm_ (by simp only [putAll, Act.put, List.setIfInBounds_toArray, List.set_cons_zero, List.set_cons_succ]) (hCont (gb143) _ ⟨hHeld, (by (with_reducible repeat (first | apply Sa | apply Sb | apply Sc)); exact HO_3.out), (by (with_reducible repeat (first | apply Ra | apply Rb | apply Rc)); exact HO_4.out), (by (with_reducible repeat (first | refine blk_drewN ?_ _ | refine blk_drew ?_ | refine blk_alloc ?_ _)); exact BK143.out), GW143.out, GE143.out, NB0_143.out, NB143_0.out, (by repeat (first | (with_reducible first | exact HI0.out | apply Ia | apply Ib | apply Ic | apply Ih | apply Ie | refine IsS84.far ?_ NB0_143.out _) | exact HI0.out)), (by repeat (first | (with_reducible first | exact HK.out | apply Ke | apply Ka | apply Kb | apply Kc | refine keep_far ?_ GW143.out _) | exact HK.out)), (by repeat (first | (with_reducible first | exact HB.out | apply Bb | apply Ba | apply Bc | refine Bd ?_ (IsS84.ge HI0.out) | refine Bd ?_ GE143.out) | exact HB.out))⟩)
          ·
           skip
           refine box_step ?hg (N := 6) ?hd (cs := #[.string (⟨#[]⟩ : ByteArray), .slice none 0 0, .slice none 0 0, .string (⟨#[]⟩ : ByteArray), .bool false]) (t := 32) ?hr ?_; (case hd => rfl); (case hg => rfl); (case hr => first | (go_simp; done) | (go_simp; rfl))
           intro gb143 hg w21 hbox hb
           have HS0_ := (hb.cell (World.block_lt_of_cell? _ _ (hHeld))).trans (hHeld)
           have n0_ := am (Kd.S_below (Kd.S_elderB (by (with_reducible repeat (first | apply Sa | apply Sb | apply Sc)); exact HO_3.out) gb143 (Nat.le_of_eq hg.symm)) hb)
           have n1_ := am (Kd.R_below (by (with_reducible repeat (first | apply Ra | apply Rb | apply Rc)); exact HO_4.out) hb)
           have n2_ := am (IsS84.below (by repeat (first | (with_reducible first | exact HI0.out | apply Ia | apply Ib | apply Ic | apply Ih | apply Ie) | exact HI0.out)) hb)
           have n3_ := am (KeepBut.trans (by repeat (first | (with_reducible first | exact HK.out | apply Ke | apply Ka | apply Kb | apply Kc) | exact HK.out)) (KeepBut.of_below hb g none) (.inl rfl))
           have n4_ := am (below_step (by repeat (first | (with_reducible first | exact HB.out | apply Bb | apply Ba | apply Bc | refine Bd ?_ (IsS84.ge HI0.out)) | exact HB.out)) hb)
           have n5_ := am (hbox)
           have n6_ := am ((by rw [hg]; exact (keep_size (w := w) (g := g) (row := none) (by repeat (first | (with_reducible first | exact HK.out | apply Ke | apply Ka | apply Kb | apply Kc) | exact HK.out))) : w.heap.size ≤ gb143))
           have n7_ := am ((Nat.le_trans HW0.out (by rw [hg]; exact (keep_size (w := w) (g := g) (row := none) (by repeat (first | (with_reducible first | exact HK.out | apply Ke | apply Ka | apply Kb | apply Kc) | exact HK.out))) : w.heap.size ≤ gb143) : w0.heap.size ≤ gb143))
           have n8_ := am ((by rw [hg]; exact Nat.ne_of_lt (IsS84.lt (show IsS84 w0 _ g s0_0 t137 t138 from by repeat (first | (with_reducible first | exact HI0.out | apply Ia | apply Ib | apply Ic | apply Ih | apply Ie) | exact HI0.out))) : g ≠ gb143))
           have n9_ := am ((by rw [hg]; exact Nat.ne_of_gt (IsS84.lt (show IsS84 w0 _ g s0_0 t137 t138 from by repeat (first | (with_reducible first | exact HI0.out | apply Ia | apply Ib | apply Ic | apply Ih | apply Ie) | exact HI0.out))) : gb143 ≠ g))
           clear HO_3
           clear HO_4
           clear HI0
           clear HK
           clear HB
           have HO_3 := n0_
           have HO_4 := n1_
           have HI0 := n2_
           have HK := n3_
           have HB := n4_
           have BK143 := n5_
           have GW143 := n6_
           have GE143 := n7_
           have NB0_143 := n8_
           have NB143_0 := n9_
           clear n0_ n1_ n2_ n3_ n4_ n5_ n6_ n7_ n8_ n9_
           clear hb hbox hg
           refine hK.out _ _ (HS0_) (fun hHeld => ?_)
           clear hK K
           refine norm_ (a' := ?_) ?_ ?_
           rotate_left
           ·
            show Act.put _ (some 6) _ = _
            simp only [Act.put, List.setIfInBounds_toArray, List.set_cons_zero, List.set_cons_succ, i64_w, i32_w]
            rfl
           refine one_ (i := 9) (N := some 28) #[true, true, true, true, true, true, true, true, true, true, false, true, false] rfl rfl (one_of HT_.out (by kernel_rfl)) (by decide) (fun K hK => ?_)
           refine goes_ Try.func60 (by kernel_rfl) rfl #[.pointer (some ⟨g, 0, none⟩), .int .i64 4] (by rfl) rfl rfl (by (try simp only [List.map_toArray, List.map_cons, List.map_nil]); first | done | rfl | (simp only [List.length_drop, List.length_take]; rfl)) ?_
           with_reducible refine (spec_l1Once.calls g s0_0 t137 t138 4 t140 t141 t142 w0 _ ?side1 ?side2 A15.out).mono ?_
           (case side1 => repeat (first | (with_reducible first | exact HI0.out | apply Ia | apply Ib | apply Ic | apply Ih | apply Ie | refine IsS84.far ?_ NB0_143.out _) | exact HI0.out))
           (case side2 => repeat (first | (with_reducible first | exact HB.out | apply Bb | apply Ba | apply Bc | refine Bd ?_ (IsS84.ge HI0.out) | refine Bd ?_ GE143.out) | exact HB.out))
           rintro e w22 ⟨rfl, hi, hb, hk⟩
           have HS0_ := keep_cell hk (hHeld) (by first | (rw [add_block]; exact Kd.own_blk (IsS84.own_ne HI0.out HO_4.out (by decide))) | (show (Addr.add _ _).block ≠ _; rw [add_block]; exact Kd.own_blk (IsS84.own_ne HI0.out HO_4.out (by decide))) | exact Kd.own_blk (IsS84.own_ne HI0.out HO_4.out (by decide)))
           refine ⟨_, rfl, ?_⟩
           have n0_ := am (Kd.S_mono (Kd.S_keep (Ij (show IsS84 w0 _ g s0_0 t137 t138 from by repeat (first | (with_reducible first | exact HI0.out | apply Ia | apply Ib | apply Ic | apply Ih | apply Ie | refine IsS84.far ?_ NB0_143.out _) | exact HI0.out)) (by (with_reducible repeat (first | apply Sa | apply Sb | apply Sc)); exact HO_3.out) (by decide)) hk (fun _ h => h.2)) (fun _ h => h.1))
           have n1_ := am (Kd.R_mono (Kd.R_keep (Ig (show IsS84 w0 _ g s0_0 t137 t138 from by repeat (first | (with_reducible first | exact HI0.out | apply Ia | apply Ib | apply Ic | apply Ih | apply Ie | refine IsS84.far ?_ NB0_143.out _) | exact HI0.out)) (by (with_reducible repeat (first | apply Ra | apply Rb | apply Rc)); exact HO_4.out) (by decide)) hk (fun _ h => h.2)) (fun _ h => h.1))
           have n2_ := am (KeepBut.blk hk (g' := gb143) (o := .cells #[.string (⟨#[]⟩ : ByteArray), .slice none 0 0, .slice none 0 0, .string (⟨#[]⟩ : ByteArray), .bool false] 32 (0, 0)) (by (with_reducible repeat (first | refine blk_drewN ?_ _ | refine blk_drew ?_ | refine blk_alloc ?_ _)); exact BK143.out) NB143_0.out (by simp))
           have n3_ := am (KeepBut.trans (by repeat (first | (with_reducible first | exact HK.out | apply Ke | apply Ka | apply Kb | apply Kc | refine keep_far ?_ GW143.out _) | exact HK.out)) hk (.inl rfl))
           have n4_ := am (hb)
           have n5_ := am (hi)
           clear HO_3
           clear HO_4
           clear BK143
           clear HK
           clear HB
           clear HI0
           have HO_3 := n0_
           have HO_4 := n1_
           have BK143 := n2_
           have HK := n3_
           have HB := n4_
           have HI0 := n5_
           clear n0_ n1_ n2_ n3_ n4_ n5_
           (try clear hb)
           (try clear hb2)
           (try clear hk)
           (try clear hi)
           refine hK.out _ _ (HS0_) (fun hHeld => ?_)
           clear hK K
           refine norm_ (a' := ?_) ?_ ?_
           rotate_left
           ·
            show Act.put _ (some 28) _ = _
            simp only [Act.put, List.setIfInBounds_toArray, List.set_cons_zero, List.set_cons_succ, i64_w, i32_w]
            rfl
           refine pure_ (i := 10) (N := some 29) (v := ?_) (a' := ?_) #[true, true, true, true, true, true, true, true, true, true, true, true, false] rfl rfl (any_of HT_.out (by kernel_rfl)) (fun _ _ _ h => h) (Or.inl ⟨by rfl, ?_⟩) ?_ ?_
           rotate_left
           ·
            intro w'
            go_simp
            with_reducible rfl
           rotate_left
           ·
            simp only [Act.put, List.setIfInBounds_toArray, List.set_cons_zero, List.set_cons_succ, i64_w, i32_w]
            rfl
           exact norm_ (by simp only [putAll, Act.put, List.setIfInBounds_toArray, List.set_cons_zero, List.set_cons_succ]) (hCont (gb143) _ ⟨hHeld, (by (with_reducible repeat (first | apply Sa | apply Sb | apply Sc)); exact HO_3.out), (by (with_reducible repeat (first | apply Ra | apply Rb | apply Rc)); exact HO_4.out), (by (with_reducible repeat (first | refine blk_drewN ?_ _ | refine blk_drew ?_ | refine blk_alloc ?_ _)); exact BK143.out), GW143.out, GE143.out, NB0_143.out, NB143_0.out, (by repeat (first | (with_reducible first | exact HI0.out | apply Ia | apply Ib | apply Ic | apply Ih | apply Ie | refine IsS84.far ?_ NB0_143.out _) | exact HI0.out)), (by repeat (first | (with_reducible first | exact HK.out | apply Ke | apply Ka | apply Kb | apply Kc | refine keep_far ?_ GW143.out _) | exact HK.out)), (by repeat (first | (with_reducible first | exact HB.out | apply Bb | apply Ba | apply Bc | refine Bd ?_ (IsS84.ge HI0.out) | refine Bd ?_ GE143.out) | exact HB.out))⟩)
         ·
          skip
          refine box_step ?hg (N := 6) ?hd (cs := #[.string (⟨#[]⟩ : ByteArray), .slice none 0 0, .slice none 0 0, .string (⟨#[]⟩ : ByteArray), .bool false]) (t := 32) ?hr ?_; (case hd => rfl); (case hg => rfl); (case hr => first | (go_simp; done) | (go_simp; rfl))
          intro gb143 hg w20 hbox hb
          have HS0_ := (hb.cell (World.block_lt_of_cell? _ _ (hHeld))).trans (hHeld)
          have n0_ := am (Kd.S_below (Kd.S_elderB (by (with_reducible repeat (first | apply Sa | apply Sb | apply Sc)); exact HO_3.out) gb143 (Nat.le_of_eq hg.symm)) hb)
          have n1_ := am (Kd.R_below (by (with_reducible repeat (first | apply Ra | apply Rb | apply Rc)); exact HO_4.out) hb)
          have n2_ := am (IsS84.below (by repeat (first | (with_reducible first | exact HI0.out | apply Ia | apply Ib | apply Ic | apply Ih | apply Ie) | exact HI0.out)) hb)
          have n3_ := am (KeepBut.trans (by repeat (first | (with_reducible first | exact HK.out | apply Ke | apply Ka | apply Kb | apply Kc) | exact HK.out)) (KeepBut.of_below hb g none) (.inl rfl))
          have n4_ := am (below_step (by repeat (first | (with_reducible first | exact HB.out | apply Bb | apply Ba | apply Bc | refine Bd ?_ (IsS84.ge HI0.out)) | exact HB.out)) hb)
          have n5_ := am (hbox)
          have n6_ := am ((by rw [hg]; exact (keep_size (w := w) (g := g) (row := none) (by repeat (first | (with_reducible first | exact HK.out | apply Ke | apply Ka | apply Kb | apply Kc) | exact HK.out))) : w.heap.size ≤ gb143))
          have n7_ := am ((Nat.le_trans HW0.out (by rw [hg]; exact (keep_size (w := w) (g := g) (row := none) (by repeat (first | (with_reducible first | exact HK.out | apply Ke | apply Ka | apply Kb | apply Kc) | exact HK.out))) : w.heap.size ≤ gb143) : w0.heap.size ≤ gb143))
          have n8_ := am ((by rw [hg]; exact Nat.ne_of_lt (IsS84.lt (show IsS84 w0 _ g s0_0 t137 t138 from by repeat (first | (with_reducible first | exact HI0.out | apply Ia | apply Ib | apply Ic | apply Ih | apply Ie) | exact HI0.out))) : g ≠ gb143))
          have n9_ := am ((by rw [hg]; exact Nat.ne_of_gt (IsS84.lt (show IsS84 w0 _ g s0_0 t137 t138 from by repeat (first | (with_reducible first | exact HI0.out | apply Ia | apply Ib | apply Ic | apply Ih | apply Ie) | exact HI0.out))) : gb143 ≠ g))
          clear HO_3
          clear HO_4
          clear HI0
          clear HK
          clear HB
          have HO_3 := n0_
          have HO_4 := n1_
          have HI0 := n2_
          have HK := n3_
          have HB := n4_
          have BK143 := n5_
          have GW143 := n6_
          have GE143 := n7_
          have NB0_143 := n8_
          have NB143_0 := n9_
          clear n0_ n1_ n2_ n3_ n4_ n5_ n6_ n7_ n8_ n9_
          clear hb hbox hg
          refine hK.out _ _ (HS0_) (fun hHeld => ?_)
          clear hK K
          refine norm_ (a' := ?_) ?_ ?_
          rotate_left
          ·
           show Act.put _ (some 6) _ = _
           simp only [Act.put, List.setIfInBounds_toArray, List.set_cons_zero, List.set_cons_succ, i64_w, i32_w]
           rfl
          refine one_ (i := 6) (N := some 25) #[true, true, true, true, true, true, true, false, true, false, false, true, false] rfl rfl (one_of HT_.out (by kernel_rfl)) (by decide) (fun K hK => ?_)
          refine goes_ Try.func68 (by kernel_rfl) rfl #[.int .i64 t136] (by rfl) rfl rfl (by (try simp only [List.map_toArray, List.map_cons, List.map_nil]); first | done | rfl | (simp only [List.length_drop, List.length_take]; rfl)) ?_
          with_reducible refine (spec_l2Int.calls k1 t136 t139 _ A13.out).mono ?_
          rintro e w21 ⟨rfl, hb⟩
          have HS0_ := (hb.cell (World.block_lt_of_cell? _ _ (hHeld))).trans (hHeld)
          refine ⟨_, rfl, ?_⟩
          have n0_ := am (Kd.S_below (by (with_reducible repeat (first | apply Sa | apply Sb | apply Sc)); exact HO_3.out) hb)
          have n1_ := am (Kd.R_below (by (with_reducible repeat (first | apply Ra | apply Rb | apply Rc)); exact HO_4.out) hb)
          have n2_ := am (IsS84.below (by repeat (first | (with_reducible first | exact HI0.out | apply Ia | apply Ib | apply Ic | apply Ih | apply Ie | refine IsS84.far ?_ NB0_143.out _) | exact HI0.out)) hb)
          have n3_ := am (blk_below (g := gb143) (o := .cells #[.string (⟨#[]⟩ : ByteArray), .slice none 0 0, .slice none 0 0, .string (⟨#[]⟩ : ByteArray), .bool false] 32 (0, 0)) (by (with_reducible repeat (first | refine blk_drewN ?_ _ | refine blk_drew ?_ | refine blk_alloc ?_ _)); exact BK143.out) hb)
          have n4_ := am (KeepBut.trans (by repeat (first | (with_reducible first | exact HK.out | apply Ke | apply Ka | apply Kb | apply Kc | refine keep_far ?_ GW143.out _) | exact HK.out)) (KeepBut.of_below hb g none) (.inl rfl))
          have n5_ := am (below_step (by repeat (first | (with_reducible first | exact HB.out | apply Bb | apply Ba | apply Bc | refine Bd ?_ (IsS84.ge HI0.out) | refine Bd ?_ GE143.out) | exact HB.out)) hb)
          clear HO_3
          clear HO_4
          clear HI0
          clear BK143
          clear HK
          clear HB
          have HO_3 := n0_
          have HO_4 := n1_
          have HI0 := n2_
          have BK143 := n3_
          have HK := n4_
          have HB := n5_
          clear n0_ n1_ n2_ n3_ n4_ n5_
          (try clear hb)
          (try clear hb2)
          (try clear hk)
          (try clear hi)
          refine hK.out _ _ (HS0_) (fun hHeld => ?_)
          clear hK K
          refine norm_ (a' := ?_) ?_ ?_
          rotate_left
          ·
           show Act.put _ (some 25) _ = _
           simp only [Act.put, List.setIfInBounds_toArray, List.set_cons_zero, List.set_cons_succ, i64_w, i32_w]
           rfl
          refine pure_ (i := 7) (N := some 26) (v := ?_) (a' := ?_) #[true, true, true, true, true, true, true, true, true, false, false, true, false] rfl rfl (any_of HT_.out (by kernel_rfl)) (fun _ _ _ h => h) (Or.inl ⟨by rfl, ?_⟩) ?_ ?_
          rotate_left
          ·
           intro w'
           go_simp
           with_reducible rfl
          rotate_left
          ·
           simp only [Act.put, List.setIfInBounds_toArray, List.set_cons_zero, List.set_cons_succ, i64_w, i32_w]
           rfl
          refine one_ (i := 9) (N := some 28) #[true, true, true, true, true, true, true, true, true, true, false, true, false] rfl rfl (one_of HT_.out (by kernel_rfl)) (by decide) (fun K hK => ?_)
          refine goes_ Try.func60 (by kernel_rfl) rfl #[.pointer (some ⟨g, 0, none⟩), .int .i64 4] (by rfl) rfl rfl (by (try simp only [List.map_toArray, List.map_cons, List.map_nil]); first | done | rfl | (simp only [List.length_drop, List.length_take]; rfl)) ?_
          with_reducible refine (spec_l1Once.calls g s0_0 t137 t138 4 t140 t141 t142 w0 _ ?side1 ?side2 A15.out).mono ?_
          (case side1 => repeat (first | (with_reducible first | exact HI0.out | apply Ia | apply Ib | apply Ic | apply Ih | apply Ie | refine IsS84.far ?_ NB0_143.out _) | exact HI0.out))
          (case side2 => repeat (first | (with_reducible first | exact HB.out | apply Bb | apply Ba | apply Bc | refine Bd ?_ (IsS84.ge HI0.out) | refine Bd ?_ GE143.out) | exact HB.out))
          rintro e w22 ⟨rfl, hi, hb, hk⟩
          have HS0_ := keep_cell hk (hHeld) (by first | (rw [add_block]; exact Kd.own_blk (IsS84.own_ne HI0.out HO_4.out (by decide))) | (show (Addr.add _ _).block ≠ _; rw [add_block]; exact Kd.own_blk (IsS84.own_ne HI0.out HO_4.out (by decide))) | exact Kd.own_blk (IsS84.own_ne HI0.out HO_4.out (by decide)))
          refine ⟨_, rfl, ?_⟩
          have n0_ := am (Kd.S_mono (Kd.S_keep (Ij (show IsS84 w0 _ g s0_0 t137 t138 from by repeat (first | (with_reducible first | exact HI0.out | apply Ia | apply Ib | apply Ic | apply Ih | apply Ie | refine IsS84.far ?_ NB0_143.out _) | exact HI0.out)) (by (with_reducible repeat (first | apply Sa | apply Sb | apply Sc)); exact HO_3.out) (by decide)) hk (fun _ h => h.2)) (fun _ h => h.1))
          have n1_ := am (Kd.R_mono (Kd.R_keep (Ig (show IsS84 w0 _ g s0_0 t137 t138 from by repeat (first | (with_reducible first | exact HI0.out | apply Ia | apply Ib | apply Ic | apply Ih | apply Ie | refine IsS84.far ?_ NB0_143.out _) | exact HI0.out)) (by (with_reducible repeat (first | apply Ra | apply Rb | apply Rc)); exact HO_4.out) (by decide)) hk (fun _ h => h.2)) (fun _ h => h.1))
          have n2_ := am (KeepBut.blk hk (g' := gb143) (o := .cells #[.string (⟨#[]⟩ : ByteArray), .slice none 0 0, .slice none 0 0, .string (⟨#[]⟩ : ByteArray), .bool false] 32 (0, 0)) (by (with_reducible repeat (first | refine blk_drewN ?_ _ | refine blk_drew ?_ | refine blk_alloc ?_ _)); exact BK143.out) NB143_0.out (by simp))
          have n3_ := am (KeepBut.trans (by repeat (first | (with_reducible first | exact HK.out | apply Ke | apply Ka | apply Kb | apply Kc | refine keep_far ?_ GW143.out _) | exact HK.out)) hk (.inl rfl))
          have n4_ := am (hb)
          have n5_ := am (hi)
          clear HO_3
          clear HO_4
          clear BK143
          clear HK
          clear HB
          clear HI0
          have HO_3 := n0_
          have HO_4 := n1_
          have BK143 := n2_
          have HK := n3_
          have HB := n4_
          have HI0 := n5_
          clear n0_ n1_ n2_ n3_ n4_ n5_
          (try clear hb)
          (try clear hb2)
          (try clear hk)
          (try clear hi)
          refine hK.out _ _ (HS0_) (fun hHeld => ?_)
          clear hK K
          refine norm_ (a' := ?_) ?_ ?_
          rotate_left
          ·
           show Act.put _ (some 28) _ = _
           simp only [Act.put, List.setIfInBounds_toArray, List.set_cons_zero, List.set_cons_succ, i64_w, i32_w]
           rfl
          refine pure_ (i := 10) (N := some 29) (v := ?_) (a' := ?_) #[true, true, true, true, true, true, true, true, true, true, true, true, false] rfl rfl (any_of HT_.out (by kernel_rfl)) (fun _ _ _ h => h) (Or.inl ⟨by rfl, ?_⟩) ?_ ?_
          rotate_left
          ·
           intro w'
           go_simp
           with_reducible rfl
          rotate_left
          ·
           simp only [Act.put, List.setIfInBounds_toArray, List.set_cons_zero, List.set_cons_succ, i64_w, i32_w]
           rfl
          exact norm_ (by simp only [putAll, Act.put, List.setIfInBounds_toArray, List.set_cons_zero, List.set_cons_succ]) (hCont (gb143) _ ⟨hHeld, (by (with_reducible repeat (first | apply Sa | apply Sb | apply Sc)); exact HO_3.out), (by (with_reducible repeat (first | apply Ra | apply Rb | apply Rc)); exact HO_4.out), (by (with_reducible repeat (first | refine blk_drewN ?_ _ | refine blk_drew ?_ | refine blk_alloc ?_ _)); exact BK143.out), GW143.out, GE143.out, NB0_143.out, NB143_0.out, (by repeat (first | (with_reducible first | exact HI0.out | apply Ia | apply Ib | apply Ic | apply Ih | apply Ie | refine IsS84.far ?_ NB0_143.out _) | exact HI0.out)), (by repeat (first | (with_reducible first | exact HK.out | apply Ke | apply Ka | apply Kb | apply Kc | refine keep_far ?_ GW143.out _) | exact HK.out)), (by repeat (first | (with_reducible first | exact HB.out | apply Bb | apply Ba | apply Bc | refine Bd ?_ (IsS84.ge HI0.out) | refine Bd ?_ GE143.out) | exact HB.out))⟩)
        ·
         skip
         refine box_step ?hg (N := 6) ?hd (cs := #[.string (⟨#[]⟩ : ByteArray), .slice none 0 0, .slice none 0 0, .string (⟨#[]⟩ : ByteArray), .bool false]) (t := 32) ?hr ?_; (case hd => rfl); (case hg => rfl); (case hr => first | (go_simp; done) | (go_simp; rfl))
         intro gb143 hg w19 hbox hb
         have HS0_ := (hb.cell (World.block_lt_of_cell? _ _ (hHeld))).trans (hHeld)
         have n0_ := am (Kd.S_below (Kd.S_elderB (by (with_reducible repeat (first | apply Sa | apply Sb | apply Sc)); exact HO_3.out) gb143 (Nat.le_of_eq hg.symm)) hb)
         have n1_ := am (Kd.R_below (by (with_reducible repeat (first | apply Ra | apply Rb | apply Rc)); exact HO_4.out) hb)
         have n2_ := am (IsS84.below (by repeat (first | (with_reducible first | exact HI0.out | apply Ia | apply Ib | apply Ic | apply Ih | apply Ie) | exact HI0.out)) hb)
         have n3_ := am (KeepBut.trans (by repeat (first | (with_reducible first | exact HK.out | apply Ke | apply Ka | apply Kb | apply Kc) | exact HK.out)) (KeepBut.of_below hb g none) (.inl rfl))
         have n4_ := am (below_step (by repeat (first | (with_reducible first | exact HB.out | apply Bb | apply Ba | apply Bc | refine Bd ?_ (IsS84.ge HI0.out)) | exact HB.out)) hb)
         have n5_ := am (hbox)
         have n6_ := am ((by rw [hg]; exact (keep_size (w := w) (g := g) (row := none) (by repeat (first | (with_reducible first | exact HK.out | apply Ke | apply Ka | apply Kb | apply Kc) | exact HK.out))) : w.heap.size ≤ gb143))
         have n7_ := am ((Nat.le_trans HW0.out (by rw [hg]; exact (keep_size (w := w) (g := g) (row := none) (by repeat (first | (with_reducible first | exact HK.out | apply Ke | apply Ka | apply Kb | apply Kc) | exact HK.out))) : w.heap.size ≤ gb143) : w0.heap.size ≤ gb143))
         have n8_ := am ((by rw [hg]; exact Nat.ne_of_lt (IsS84.lt (show IsS84 w0 _ g s0_0 t133 t134 from by repeat (first | (with_reducible first | exact HI0.out | apply Ia | apply Ib | apply Ic | apply Ih | apply Ie) | exact HI0.out))) : g ≠ gb143))
         have n9_ := am ((by rw [hg]; exact Nat.ne_of_gt (IsS84.lt (show IsS84 w0 _ g s0_0 t133 t134 from by repeat (first | (with_reducible first | exact HI0.out | apply Ia | apply Ib | apply Ic | apply Ih | apply Ie) | exact HI0.out))) : gb143 ≠ g))
         clear HO_3
         clear HO_4
         clear HI0
         clear HK
         clear HB
         have HO_3 := n0_
         have HO_4 := n1_
         have HI0 := n2_
         have HK := n3_
         have HB := n4_
         have BK143 := n5_
         have GW143 := n6_
         have GE143 := n7_
         have NB0_143 := n8_
         have NB143_0 := n9_
         clear n0_ n1_ n2_ n3_ n4_ n5_ n6_ n7_ n8_ n9_
         clear hb hbox hg
         refine hK.out _ _ (HS0_) (fun hHeld => ?_)
         clear hK K
         refine norm_ (a' := ?_) ?_ ?_
         rotate_left
         ·
          show Act.put _ (some 6) _ = _
          simp only [Act.put, List.setIfInBounds_toArray, List.set_cons_zero, List.set_cons_succ, i64_w, i32_w]
          rfl
         refine one_ (i := 5) (N := some 24) #[true, true, true, true, true, true, false, false, true, false, false, true, false] rfl rfl (one_of HT_.out (by kernel_rfl)) (by decide) (fun K hK => ?_)
         refine goes_ Try.func61 (by kernel_rfl) rfl #[.pointer (some ⟨g, 0, none⟩), .int .i64 2] (by rfl) rfl rfl (by (try simp only [List.map_toArray, List.map_cons, List.map_nil]); first | done | rfl | (simp only [List.length_drop, List.length_take]; rfl)) ?_
         with_reducible refine (spec_l1Below.calls g s0_0 t133 t134 2 t136 t137 t138 w0 _ ?side1 ?side2 A12.out).mono ?_
         (case side1 => repeat (first | (with_reducible first | exact HI0.out | apply Ia | apply Ib | apply Ic | apply Ih | apply Ie | refine IsS84.far ?_ NB0_143.out _) | exact HI0.out))
         (case side2 => repeat (first | (with_reducible first | exact HB.out | apply Bb | apply Ba | apply Bc | refine Bd ?_ (IsS84.ge HI0.out) | refine Bd ?_ GE143.out) | exact HB.out))
         rintro e w20 ⟨rfl, hi, hb, hk⟩
         have HS0_ := keep_cell hk (hHeld) (by first | (rw [add_block]; exact Kd.own_blk (IsS84.own_ne HI0.out HO_4.out (by decide))) | (show (Addr.add _ _).block ≠ _; rw [add_block]; exact Kd.own_blk (IsS84.own_ne HI0.out HO_4.out (by decide))) | exact Kd.own_blk (IsS84.own_ne HI0.out HO_4.out (by decide)))
         refine ⟨_, rfl, ?_⟩
         have n0_ := am (Kd.S_mono (Kd.S_keep (Ij (show IsS84 w0 _ g s0_0 t133 t134 from by repeat (first | (with_reducible first | exact HI0.out | apply Ia | apply Ib | apply Ic | apply Ih | apply Ie | refine IsS84.far ?_ NB0_143.out _) | exact HI0.out)) (by (with_reducible repeat (first | apply Sa | apply Sb | apply Sc)); exact HO_3.out) (by decide)) hk (fun _ h => h.2)) (fun _ h => h.1))
         have n1_ := am (Kd.R_mono (Kd.R_keep (Ig (show IsS84 w0 _ g s0_0 t133 t134 from by repeat (first | (with_reducible first | exact HI0.out | apply Ia | apply Ib | apply Ic | apply Ih | apply Ie | refine IsS84.far ?_ NB0_143.out _) | exact HI0.out)) (by (with_reducible repeat (first | apply Ra | apply Rb | apply Rc)); exact HO_4.out) (by decide)) hk (fun _ h => h.2)) (fun _ h => h.1))
         have n2_ := am (KeepBut.blk hk (g' := gb143) (o := .cells #[.string (⟨#[]⟩ : ByteArray), .slice none 0 0, .slice none 0 0, .string (⟨#[]⟩ : ByteArray), .bool false] 32 (0, 0)) (by (with_reducible repeat (first | refine blk_drewN ?_ _ | refine blk_drew ?_ | refine blk_alloc ?_ _)); exact BK143.out) NB143_0.out (by simp))
         have n3_ := am (KeepBut.trans (by repeat (first | (with_reducible first | exact HK.out | apply Ke | apply Ka | apply Kb | apply Kc | refine keep_far ?_ GW143.out _) | exact HK.out)) hk (.inl rfl))
         have n4_ := am (hb)
         have n5_ := am (hi)
         clear HO_3
         clear HO_4
         clear BK143
         clear HK
         clear HB
         clear HI0
         have HO_3 := n0_
         have HO_4 := n1_
         have BK143 := n2_
         have HK := n3_
         have HB := n4_
         have HI0 := n5_
         clear n0_ n1_ n2_ n3_ n4_ n5_
         (try clear hb)
         (try clear hb2)
         (try clear hk)
         (try clear hi)
         refine hK.out _ _ (HS0_) (fun hHeld => ?_)
         clear hK K
         refine norm_ (a' := ?_) ?_ ?_
         rotate_left
         ·
          show Act.put _ (some 24) _ = _
          simp only [Act.put, List.setIfInBounds_toArray, List.set_cons_zero, List.set_cons_succ, i64_w, i32_w]
          rfl
         refine one_ (i := 6) (N := some 25) #[true, true, true, true, true, true, true, false, true, false, false, true, false] rfl rfl (one_of HT_.out (by kernel_rfl)) (by decide) (fun K hK => ?_)
         refine goes_ Try.func68 (by kernel_rfl) rfl #[.int .i64 t136] (by rfl) rfl rfl (by (try simp only [List.map_toArray, List.map_cons, List.map_nil]); first | done | rfl | (simp only [List.length_drop, List.length_take]; rfl)) ?_
         with_reducible refine (spec_l2Int.calls k1 t136 t139 _ A13.out).mono ?_
         rintro e w21 ⟨rfl, hb⟩
         have HS0_ := (hb.cell (World.block_lt_of_cell? _ _ (hHeld))).trans (hHeld)
         refine ⟨_, rfl, ?_⟩
         have n0_ := am (Kd.S_below (by (with_reducible repeat (first | apply Sa | apply Sb | apply Sc)); exact HO_3.out) hb)
         have n1_ := am (Kd.R_below (by (with_reducible repeat (first | apply Ra | apply Rb | apply Rc)); exact HO_4.out) hb)
         have n2_ := am (IsS84.below (by repeat (first | (with_reducible first | exact HI0.out | apply Ia | apply Ib | apply Ic | apply Ih | apply Ie | refine IsS84.far ?_ NB0_143.out _) | exact HI0.out)) hb)
         have n3_ := am (blk_below (g := gb143) (o := .cells #[.string (⟨#[]⟩ : ByteArray), .slice none 0 0, .slice none 0 0, .string (⟨#[]⟩ : ByteArray), .bool false] 32 (0, 0)) (by (with_reducible repeat (first | refine blk_drewN ?_ _ | refine blk_drew ?_ | refine blk_alloc ?_ _)); exact BK143.out) hb)
         have n4_ := am (KeepBut.trans (by repeat (first | (with_reducible first | exact HK.out | apply Ke | apply Ka | apply Kb | apply Kc | refine keep_far ?_ GW143.out _) | exact HK.out)) (KeepBut.of_below hb g none) (.inl rfl))
         have n5_ := am (below_step (by repeat (first | (with_reducible first | exact HB.out | apply Bb | apply Ba | apply Bc | refine Bd ?_ (IsS84.ge HI0.out) | refine Bd ?_ GE143.out) | exact HB.out)) hb)
         clear HO_3
         clear HO_4
         clear HI0
         clear BK143
         clear HK
         clear HB
         have HO_3 := n0_
         have HO_4 := n1_
         have HI0 := n2_
         have BK143 := n3_
         have HK := n4_
         have HB := n5_
         clear n0_ n1_ n2_ n3_ n4_ n5_
         (try clear hb)
         (try clear hb2)
         (try clear hk)
         (try clear hi)
         refine hK.out _ _ (HS0_) (fun hHeld => ?_)
         clear hK K
         refine norm_ (a' := ?_) ?_ ?_
         rotate_left
         ·
          show Act.put _ (some 25) _ = _
          simp only [Act.put, List.setIfInBounds_toArray, List.set_cons_zero, List.set_cons_succ, i64_w, i32_w]
          rfl
         refine pure_ (i := 7) (N := some 26) (v := ?_) (a' := ?_) #[true, true, true, true, true, true, true, true, true, false, false, true, false] rfl rfl (any_of HT_.out (by kernel_rfl)) (fun _ _ _ h => h) (Or.inl ⟨by rfl, ?_⟩) ?_ ?_
         rotate_left
         ·
          intro w'
          go_simp
          with_reducible rfl
         rotate_left
         ·
          simp only [Act.put, List.setIfInBounds_toArray, List.set_cons_zero, List.set_cons_succ, i64_w, i32_w]
          rfl
         refine one_ (i := 9) (N := some 28) #[true, true, true, true, true, true, true, true, true, true, false, true, false] rfl rfl (one_of HT_.out (by kernel_rfl)) (by decide) (fun K hK => ?_)
         refine goes_ Try.func60 (by kernel_rfl) rfl #[.pointer (some ⟨g, 0, none⟩), .int .i64 4] (by rfl) rfl rfl (by (try simp only [List.map_toArray, List.map_cons, List.map_nil]); first | done | rfl | (simp only [List.length_drop, List.length_take]; rfl)) ?_
         with_reducible refine (spec_l1Once.calls g s0_0 t137 t138 4 t140 t141 t142 w0 _ ?side1 ?side2 A15.out).mono ?_
         (case side1 => repeat (first | (with_reducible first | exact HI0.out | apply Ia | apply Ib | apply Ic | apply Ih | apply Ie | refine IsS84.far ?_ NB0_143.out _) | exact HI0.out))
         (case side2 => repeat (first | (with_reducible first | exact HB.out | apply Bb | apply Ba | apply Bc | refine Bd ?_ (IsS84.ge HI0.out) | refine Bd ?_ GE143.out) | exact HB.out))
         rintro e w22 ⟨rfl, hi, hb, hk⟩
         have HS0_ := keep_cell hk (hHeld) (by first | (rw [add_block]; exact Kd.own_blk (IsS84.own_ne HI0.out HO_4.out (by decide))) | (show (Addr.add _ _).block ≠ _; rw [add_block]; exact Kd.own_blk (IsS84.own_ne HI0.out HO_4.out (by decide))) | exact Kd.own_blk (IsS84.own_ne HI0.out HO_4.out (by decide)))
         refine ⟨_, rfl, ?_⟩
         have n0_ := am (Kd.S_mono (Kd.S_keep (Ij (show IsS84 w0 _ g s0_0 t137 t138 from by repeat (first | (with_reducible first | exact HI0.out | apply Ia | apply Ib | apply Ic | apply Ih | apply Ie | refine IsS84.far ?_ NB0_143.out _) | exact HI0.out)) (by (with_reducible repeat (first | apply Sa | apply Sb | apply Sc)); exact HO_3.out) (by decide)) hk (fun _ h => h.2)) (fun _ h => h.1))
         have n1_ := am (Kd.R_mono (Kd.R_keep (Ig (show IsS84 w0 _ g s0_0 t137 t138 from by repeat (first | (with_reducible first | exact HI0.out | apply Ia | apply Ib | apply Ic | apply Ih | apply Ie | refine IsS84.far ?_ NB0_143.out _) | exact HI0.out)) (by (with_reducible repeat (first | apply Ra | apply Rb | apply Rc)); exact HO_4.out) (by decide)) hk (fun _ h => h.2)) (fun _ h => h.1))
         have n2_ := am (KeepBut.blk hk (g' := gb143) (o := .cells #[.string (⟨#[]⟩ : ByteArray), .slice none 0 0, .slice none 0 0, .string (⟨#[]⟩ : ByteArray), .bool false] 32 (0, 0)) (by (with_reducible repeat (first | refine blk_drewN ?_ _ | refine blk_drew ?_ | refine blk_alloc ?_ _)); exact BK143.out) NB143_0.out (by simp))
         have n3_ := am (KeepBut.trans (by repeat (first | (with_reducible first | exact HK.out | apply Ke | apply Ka | apply Kb | apply Kc | refine keep_far ?_ GW143.out _) | exact HK.out)) hk (.inl rfl))
         have n4_ := am (hb)
         have n5_ := am (hi)
         clear HO_3
         clear HO_4
         clear BK143
         clear HK
         clear HB
         clear HI0
         have HO_3 := n0_
         have HO_4 := n1_
         have BK143 := n2_
         have HK := n3_
         have HB := n4_
         have HI0 := n5_
         clear n0_ n1_ n2_ n3_ n4_ n5_
         (try clear hb)
         (try clear hb2)
         (try clear hk)
         (try clear hi)
         refine hK.out _ _ (HS0_) (fun hHeld => ?_)
         clear hK K
         refine norm_ (a' := ?_) ?_ ?_
         rotate_left
         ·
          show Act.put _ (some 28) _ = _
          simp only [Act.put, List.setIfInBounds_toArray, List.set_cons_zero, List.set_cons_succ, i64_w, i32_w]
          rfl
         refine pure_ (i := 10) (N := some 29) (v := ?_) (a' := ?_) #[true, true, true, true, true, true, true, true, true, true, true, true, false] rfl rfl (any_of HT_.out (by kernel_rfl)) (fun _ _ _ h => h) (Or.inl ⟨by rfl, ?_⟩) ?_ ?_
         rotate_left
         ·
          intro w'
          go_simp
          with_reducible rfl
         rotate_left
         ·
          simp only [Act.put, List.setIfInBounds_toArray, List.set_cons_zero, List.set_cons_succ, i64_w, i32_w]
          rfl
         exact norm_ (by simp only [putAll, Act.put, List.setIfInBounds_toArray, List.set_cons_zero, List.set_cons_succ]) (hCont (gb143) _ ⟨hHeld, (by (with_reducible repeat (first | apply Sa | apply Sb | apply Sc)); exact HO_3.out), (by (with_reducible repeat (first | apply Ra | apply Rb | apply Rc)); exact HO_4.out), (by (with_reducible repeat (first | refine blk_drewN ?_ _ | refine blk_drew ?_ | refine blk_alloc ?_ _)); exact BK143.out), GW143.out, GE143.out, NB0_143.out, NB143_0.out, (by repeat (first | (with_reducible first | exact HI0.out | apply Ia | apply Ib | apply Ic | apply Ih | apply Ie | refine IsS84.far ?_ NB0_143.out _) | exact HI0.out)), (by repeat (first | (with_reducible first | exact HK.out | apply Ke | apply Ka | apply Kb | apply Kc | refine keep_far ?_ GW143.out _) | exact HK.out)), (by repeat (first | (with_reducible first | exact HB.out | apply Bb | apply Ba | apply Bc | refine Bd ?_ (IsS84.ge HI0.out) | refine Bd ?_ GE143.out) | exact HB.out))⟩)
       rintro gb143 w23 ⟨hS_, h0_, h1_, h2_, h3_, h4_, h5_, h6_, h7_, h8_, h9_⟩
       have n0_ : Aside0 (Kd.S k32 32 w23 w.heap.size (fun k_ => some k_ ≠ (.slice (some ad135) y129.length co16 : Value).ownBlock ∧ k_ ≠ gb143) u3 x3_1) := ⟨h0_⟩
       have n1_ : Aside0 (Kd.R Kd.string 9 w23 w.heap.size (fun _ => True) (.slice (some ad135) y129.length co16) y129) := ⟨h1_⟩
       have n2_ : Aside0 (w23.heap[gb143]? = some (.cells #[.string (⟨#[]⟩ : ByteArray), .slice none 0 0, .slice none 0 0, .string (⟨#[]⟩ : ByteArray), .bool false] 32 (0, 0))) := ⟨h2_⟩
       have n3_ : Aside0 (w.heap.size ≤ gb143) := ⟨h3_⟩
       have n4_ : Aside0 (w0.heap.size ≤ gb143) := ⟨h4_⟩
       have n5_ : Aside0 (g ≠ gb143) := ⟨h5_⟩
       have n6_ : Aside0 (gb143 ≠ g) := ⟨h6_⟩
       have n7_ : Aside0 (IsS84 w0 w23 g s0_0 t141 t142) := ⟨h7_⟩
       have n8_ : Aside0 (KeepBut w w23 g none) := ⟨h8_⟩
       have n9_ : Aside0 (Below w0.heap.size w0 w23) := ⟨h9_⟩
       clear HO_3
       clear HO_4
       clear HI0
       clear HK
       clear HB
       clear h0_ h1_ h2_ h3_ h4_ h5_ h6_ h7_ h8_ h9_
       have HO_3 := n0_
       have HO_4 := n1_
       have BK143 := n2_
       have GW143 := n3_
       have GE143 := n4_
       have NB0_143 := n5_
       have NB143_0 := n6_
       have HI0 := n7_
       have HK := n8_
       have HB := n9_
       clear n0_ n1_ n2_ n3_ n4_ n5_ n6_ n7_ n8_ n9_
       have hHeld : w23.cell? (ad135.add (x5_1).toNat) = some (.string (rdOf ByteArray.empty y129 x5_1)) := hS_
       refine norm_ (a' := ?_) ?_ ?_
       rotate_left
       ·
        simp only [putAll, Act.put, List.setIfInBounds_toArray, List.set_cons_zero, List.set_cons_succ]
        rfl
       refine one_ (i := 12) (N := none) #[true, true, true, true, true, true, true, true, true, true, true, true, true] rfl rfl (one_of HT_.out (by kernel_rfl)) (by decide) (fun K hK => ?_)
       have hs24 : w23.cell? ⟨gb143, 0, none⟩ = some (.string (⟨#[]⟩ : ByteArray)) := (blk_cell BK143.out 0).trans rfl
       have hfs24 := blk_frozen BK143.out 0
       have hs25 : w23.cell? ⟨gb143, 1, none⟩ = some (.slice none 0 0) := (blk_cell BK143.out 1).trans rfl
       have hfs25 := blk_frozen BK143.out 1
       have hs26 : w23.cell? ⟨gb143, 2, none⟩ = some (.slice none 0 0) := (blk_cell BK143.out 2).trans rfl
       have hfs26 := blk_frozen BK143.out 2
       have hs27 : w23.cell? ⟨gb143, 3, none⟩ = some (.string (⟨#[]⟩ : ByteArray)) := (blk_cell BK143.out 3).trans rfl
       have hfs27 := blk_frozen BK143.out 3
       have hs28 : w23.cell? ⟨gb143, 4, none⟩ = some (.bool false) := (blk_cell BK143.out 4).trans rfl
       have hfs28 := blk_frozen BK143.out 4
       refine skip_ (w1 := ?_) (by rfl) rfl ?_ ?_
       rotate_left
       ·
        go_simp
        rfl
       refine hK.out _ _ (((cell_far (p := ⟨gb143, _, none⟩) (by first | exact Kd.own_blk (Kd.R_ne HO_4.out BK143.out (by decide)) | (rw [add_block]; exact Kd.own_blk (Kd.R_ne HO_4.out BK143.out (by decide))) | (show (Addr.add _ _).block ≠ _; rw [add_block]; exact Kd.own_blk (Kd.R_ne HO_4.out BK143.out (by decide))) | (dsimp only; exact Kd.own_blk (Kd.R_ne HO_4.out BK143.out (by decide)))) _).trans (((cell_far (p := ⟨gb143, _, none⟩) (by first | exact Kd.own_blk (Kd.R_ne HO_4.out BK143.out (by decide)) | (rw [add_block]; exact Kd.own_blk (Kd.R_ne HO_4.out BK143.out (by decide))) | (show (Addr.add _ _).block ≠ _; rw [add_block]; exact Kd.own_blk (Kd.R_ne HO_4.out BK143.out (by decide))) | (dsimp only; exact Kd.own_blk (Kd.R_ne HO_4.out BK143.out (by decide)))) _).trans (((cell_far (p := ⟨gb143, _, none⟩) (by first | exact Kd.own_blk (Kd.R_ne HO_4.out BK143.out (by decide)) | (rw [add_block]; exact Kd.own_blk (Kd.R_ne HO_4.out BK143.out (by decide))) | (show (Addr.add _ _).block ≠ _; rw [add_block]; exact Kd.own_blk (Kd.R_ne HO_4.out BK143.out (by decide))) | (dsimp only; exact Kd.own_blk (Kd.R_ne HO_4.out BK143.out (by decide)))) _).trans (((cell_far (p := ⟨gb143, _, none⟩) (by first | exact Kd.own_blk (Kd.R_ne HO_4.out BK143.out (by decide)) | (rw [add_block]; exact Kd.own_blk (Kd.R_ne HO_4.out BK143.out (by decide))) | (show (Addr.add _ _).block ≠ _; rw [add_block]; exact Kd.own_blk (Kd.R_ne HO_4.out BK143.out (by decide))) | (dsimp only; exact Kd.own_blk (Kd.R_ne HO_4.out BK143.out (by decide)))) _).trans (((cell_far (p := ⟨gb143, _, none⟩) (by first | exact Kd.own_blk (Kd.R_ne HO_4.out BK143.out (by decide)) | (rw [add_block]; exact Kd.own_blk (Kd.R_ne HO_4.out BK143.out (by decide))) | (show (Addr.add _ _).block ≠ _; rw [add_block]; exact Kd.own_blk (Kd.R_ne HO_4.out BK143.out (by decide))) | (dsimp only; exact Kd.own_blk (Kd.R_ne HO_4.out BK143.out (by decide)))) _).trans (hHeld))))))))))) (fun hHeld => ?_)
       clear hK K
       refine done_ (done_of HT_.out (by kernel_rfl)) ?_
       try go_wp2
       go_loopg [7] k1 (fun kq v7 w' => ∃ (x7_2 : Int) (x1001_2 : Int) (x1002_2 : Int) (x144001_2 : List ByteArray) (x144002_2 : List ByteArray) (u144001 : Value) (u144002 : Value), v7 = .int .i64 x7_2 ∧ Aside0 (spec_l18Draw.l1 kq x3_1 y129 x5_1 x7_2 s0_0 x1001_2 x1002_2 (rdOf ByteArray.empty y129 x5_1) x144001_2 x144002_2 ((⟨#[114, 117, 110, 32]⟩ : ByteArray) ++ t139) t140 = some (r1, r2, r3)) ∧ Aside0 (kq ≤ k1) ∧ Aside0 (Kd.S k32 32 w' w.heap.size (fun k_ => some k_ ≠ ((.slice (some ad135) y129.length co16) : Value).ownBlock ∧ some k_ ≠ (u144001 : Value).ownBlock ∧ some k_ ≠ (u144002 : Value).ownBlock ∧ k_ ≠ gb143) u3 x3_1) ∧ Aside0 (Kd.R Kd.string 9 w' w.heap.size (fun k_ => some k_ ≠ (u144001 : Value).ownBlock ∧ some k_ ≠ (u144002 : Value).ownBlock) (.slice (some ad135) y129.length co16) y129) ∧ Aside0 (Kd.R Kd.string 9 w' w.heap.size (fun k_ => some k_ ≠ ((.slice (some ad135) y129.length co16) : Value).ownBlock ∧ some k_ ≠ (u144002 : Value).ownBlock) u144001 x144001_2) ∧ Aside0 (Kd.R Kd.string 9 w' w.heap.size (fun k_ => some k_ ≠ ((.slice (some ad135) y129.length co16) : Value).ownBlock ∧ some k_ ≠ (u144001 : Value).ownBlock) u144002 x144002_2) ∧ Aside0 (w'.heap[gb143]? = some (.cells #[.string (rdOf ByteArray.empty y129 x5_1), u144001, u144002, .string ((⟨#[114, 117, 110, 32]⟩ : ByteArray) ++ t139), .bool t140] 32 (0, 0))) ∧ Aside0 (IsS84 w0 w' g s0_0 x1001_2 x1002_2) ∧ Aside0 (KeepBut w w' g none) ∧ Aside0 (Below w0.heap.size w0 w'))
       case atStart => exact ⟨(0), (t141), (t142), (([] : List ByteArray)), (([] : List ByteArray)), (.slice none 0 0), (.slice none 0 0), (by first | rfl | (simp; done) | (simp [*]; done)), H', ⟨Nat.le_refl _⟩, ⟨by (with_reducible repeat (first | apply Sa | apply Sb | apply Sc)); exact Kd.S_mono (Kd.S_far (p := ⟨gb143, 4, none⟩) (Kd.S_far (p := ⟨gb143, 3, none⟩) (Kd.S_far (p := ⟨gb143, 2, none⟩) (Kd.S_far (p := ⟨gb143, 1, none⟩) (Kd.S_far (p := ⟨gb143, 0, none⟩) (Kd.S_mono HO_3.out (fun k_ hk => (⟨hk, hk.2⟩ : _ ∧ k_ ≠ gb143))) (fun _ hk => hk.2) (.string (rdOf ByteArray.empty y129 x5_1))) (fun _ hk => hk.2) (.slice none 0 0)) (fun _ hk => hk.2) (.slice none 0 0)) (fun _ hk => hk.2) (.string ((⟨#[114, 117, 110, 32]⟩ : ByteArray) ++ t139))) (fun _ hk => hk.2) (.bool t140)) (fun _ hk => ⟨hk.1.1, ⟨(by simp [Value.ownBlock]), ⟨(by simp [Value.ownBlock]), hk.1.2⟩⟩⟩)⟩, ⟨by (with_reducible repeat (first | apply Ra | apply Rb | apply Rc)); exact Kd.R_mono (Kd.R_far (p := ⟨gb143, 4, none⟩) (Kd.R_far (p := ⟨gb143, 3, none⟩) (Kd.R_far (p := ⟨gb143, 2, none⟩) (Kd.R_far (p := ⟨gb143, 1, none⟩) (Kd.R_far (p := ⟨gb143, 0, none⟩) (Kd.R_types HO_4.out BK143.out (by decide)) (fun _ hk => hk.2) (.string (rdOf ByteArray.empty y129 x5_1))) (fun _ hk => hk.2) (.slice none 0 0)) (fun _ hk => hk.2) (.slice none 0 0)) (fun _ hk => hk.2) (.string ((⟨#[114, 117, 110, 32]⟩ : ByteArray) ++ t139))) (fun _ hk => hk.2) (.bool t140)) (fun _ hk => ⟨(by simp [Value.ownBlock]), (by simp [Value.ownBlock])⟩)⟩, ⟨by first | exact Kd.R_nil _ _ _ _ _ | exact Kd.N_nil _ _ _ _ _ | exact Kd.V_nil _ _ _ _ _ | exact Kd.Q_nil _ _ _ _ _ | exact Kd.S_nil _ _ _ _ _⟩, ⟨by first | exact Kd.R_nil _ _ _ _ _ | exact Kd.N_nil _ _ _ _ _ | exact Kd.V_nil _ _ _ _ _ | exact Kd.Q_nil _ _ _ _ _ | exact Kd.S_nil _ _ _ _ _⟩, ⟨by (with_reducible repeat (first | refine blk_drewN ?_ _ | refine blk_drew ?_ | refine blk_alloc ?_ _)); refine blk_put (cs := #[.string (rdOf ByteArray.empty y129 x5_1), .slice none 0 0, .slice none 0 0, .string ((⟨#[114, 117, 110, 32]⟩ : ByteArray) ++ t139), .bool false]) ?_ 4 _ rfl; (with_reducible repeat (first | refine blk_drewN ?_ _ | refine blk_drew ?_ | refine blk_alloc ?_ _)); refine blk_put (cs := #[.string (rdOf ByteArray.empty y129 x5_1), .slice none 0 0, .slice none 0 0, .string (⟨#[]⟩ : ByteArray), .bool false]) ?_ 3 _ rfl; (with_reducible repeat (first | refine blk_drewN ?_ _ | refine blk_drew ?_ | refine blk_alloc ?_ _)); refine blk_put (cs := #[.string (rdOf ByteArray.empty y129 x5_1), .slice none 0 0, .slice none 0 0, .string (⟨#[]⟩ : ByteArray), .bool false]) ?_ 2 _ rfl; (with_reducible repeat (first | refine blk_drewN ?_ _ | refine blk_drew ?_ | refine blk_alloc ?_ _)); refine blk_put (cs := #[.string (rdOf ByteArray.empty y129 x5_1), .slice none 0 0, .slice none 0 0, .string (⟨#[]⟩ : ByteArray), .bool false]) ?_ 1 _ rfl; (with_reducible repeat (first | refine blk_drewN ?_ _ | refine blk_drew ?_ | refine blk_alloc ?_ _)); refine blk_put (cs := #[.string (⟨#[]⟩ : ByteArray), .slice none 0 0, .slice none 0 0, .string (⟨#[]⟩ : ByteArray), .bool false]) ?_ 0 _ rfl; (with_reducible repeat (first | refine blk_drewN ?_ _ | refine blk_drew ?_ | refine blk_alloc ?_ _)); exact BK143.out⟩, ⟨by repeat (first | (with_reducible first | exact HI0.out | apply Ia | apply Ib | apply Ic | apply Ih | apply Ie | refine IsS84.far ?_ NB0_143.out _) | exact HI0.out)⟩, ⟨by repeat (first | (with_reducible first | exact HK.out | apply Ke | apply Ka | apply Kb | apply Kc | refine keep_far ?_ GW143.out _) | exact HK.out)⟩, ⟨by repeat (first | (with_reducible first | exact HB.out | apply Bb | apply Ba | apply Bc | refine Bd ?_ (IsS84.ge HI0.out) | refine Bd ?_ GE143.out) | exact HB.out)⟩⟩
       case round =>
        clear H'
        try clear p2
        try clear c6
        obtain ⟨x7_2, x1001_2, x1002_2, x144001_2, x144002_2, u144001, u144002, rfl, HA, HK2, HO_3, HO_4, HO_144001, HO_144002, BK143, HI0, HK, HB⟩ := hrel
        cases gk with
        | zero => exact absurd HA.out (by simp [spec_l18Draw.l1])
        | succ k2 =>
         have H := HA.out
         clear HA
         simp only [spec_l18Draw.l1] at H
         by_cases c29 : x7_2 < (y129.length : Int)
         ·
          rw [if_pos c29] at H
          have c29b0 : decide (x7_2 < (y129.length : Int)) = true := decide_eq_true c29
          clear c29
          have HC30 := am H
          clear H
          go_upto_region 11 with (fail)
          go_cut [46] (fun v46 wc => ∃ (kq : Nat) (x46_29 : Bool) (x1001_29 : Int) (x1002_29 : Int), v46 = .bool x46_29 ∧ Aside0 (spec_l18Draw.j2 kq x3_1 y129 x5_1 x7_2 x46_29 s0_0 x1001_29 x1002_29 (rdOf ByteArray.empty y129 x5_1) x144001_2 x144002_2 ((⟨#[114, 117, 110, 32]⟩ : ByteArray) ++ t139) t140 = some (r1, r2, r3)) ∧ Aside0 (kq ≤ k2) ∧ Aside0 (Kd.S k32 32 wc w.heap.size (fun k_ => some k_ ≠ ((.slice (some ad135) y129.length co16) : Value).ownBlock ∧ some k_ ≠ (u144001 : Value).ownBlock ∧ some k_ ≠ (u144002 : Value).ownBlock ∧ k_ ≠ gb143) u3 x3_1) ∧ Aside0 (Kd.R Kd.string 9 wc w.heap.size (fun k_ => some k_ ≠ (u144001 : Value).ownBlock ∧ some k_ ≠ (u144002 : Value).ownBlock) (.slice (some ad135) y129.length co16) y129) ∧ Aside0 (Kd.R Kd.string 9 wc w.heap.size (fun k_ => some k_ ≠ ((.slice (some ad135) y129.length co16) : Value).ownBlock ∧ some k_ ≠ (u144002 : Value).ownBlock) u144001 x144001_2) ∧ Aside0 (Kd.R Kd.string 9 wc w.heap.size (fun k_ => some k_ ≠ ((.slice (some ad135) y129.length co16) : Value).ownBlock ∧ some k_ ≠ (u144001 : Value).ownBlock) u144002 x144002_2) ∧ Aside0 (wc.heap[gb143]? = some (.cells #[.string (rdOf ByteArray.empty y129 x5_1), u144001, u144002, .string ((⟨#[114, 117, 110, 32]⟩ : ByteArray) ++ t139), .bool t140] 32 (0, 0))) ∧ Aside0 (IsS84 w0 wc g s0_0 x1001_29 x1002_29) ∧ Aside0 (KeepBut w wc g none) ∧ Aside0 (Below w0.heap.size w0 wc))
          case first =>
           have H := HC30.out
           clear HC30
           replace H := Option.bind_eq_some_iff.mp H
           obtain ⟨⟨t147, t148, t149⟩, A310, H⟩ := H
           replace H : (if t147 = true then (if x7_2 < x5_1 then (spec_l18Draw.j2 k2 x3_1 y129 x5_1 x7_2 true s0_0 t148 t149 (rdOf ByteArray.empty y129 x5_1) x144001_2 x144002_2 ((⟨#[114, 117, 110, 32]⟩ : ByteArray) ++ t139) t140) else ((spec_l1Once.f s0_0 t148 t149 5).bind fun bt150 => (spec_l18Draw.j2 k2 x3_1 y129 x5_1 x7_2 bt150.1 s0_0 bt150.2.1 bt150.2.2 (rdOf ByteArray.empty y129 x5_1) x144001_2 x144002_2 ((⟨#[114, 117, 110, 32]⟩ : ByteArray) ++ t139) t140))) else (spec_l18Draw.j2 k2 x3_1 y129 x5_1 x7_2 false s0_0 t148 t149 (rdOf ByteArray.empty y129 x5_1) x144001_2 x144002_2 ((⟨#[114, 117, 110, 32]⟩ : ByteArray) ++ t139) t140)) = some (r1, r2, r3) := H
           have A31 := am A310
           clear A310
           by_cases c32 : t147 = true
           ·
            subst c32
            have H1 : (if x7_2 < x5_1 then (spec_l18Draw.j2 k2 x3_1 y129 x5_1 x7_2 true s0_0 t148 t149 (rdOf ByteArray.empty y129 x5_1) x144001_2 x144002_2 ((⟨#[114, 117, 110, 32]⟩ : ByteArray) ++ t139) t140) else ((spec_l1Once.f s0_0 t148 t149 5).bind fun bt150 => (spec_l18Draw.j2 k2 x3_1 y129 x5_1 x7_2 bt150.1 s0_0 bt150.2.1 bt150.2.2 (rdOf ByteArray.empty y129 x5_1) x144001_2 x144002_2 ((⟨#[114, 117, 110, 32]⟩ : ByteArray) ++ t139) t140))) = some (r1, r2, r3) := by rw [if_pos rfl] at H; exact H
            clear H
            have H := H1
            clear H1
            by_cases c33 : x7_2 < x5_1
            ·
             rw [if_pos c33] at H
             have c33b0 : decide (x7_2 < x5_1) = true := decide_eq_true c33
             clear c33
             (first | rw [c33b0] | (simp only [i64_w, i32_w]; rw [c33b0]) | skip)
             have H' := am H
             clear H
             go_wp2_with (first | ((with_reducible refine gate_callee (f := 60) rfl ?_); refine goesL_ (some 37) rfl rfl Try.func60 (by kernel_rfl) rfl #[.pointer (some ⟨g, 0, none⟩), .int .i64 5] rfl (by (try simp only [List.map_toArray, List.map_cons, List.map_nil]); first | done | rfl | (simp only [List.length_drop, List.length_take]; rfl)) ?_; (with_reducible refine (spec_l1Once.calls g s0_0 x1001_2 x1002_2 5 true t148 t149 w0 _ ?side1 ?side2 A31.out).mono ?_); (case side1 => repeat (first | (with_reducible first | exact HI0.out | apply Ia | apply Ib | apply Ic | apply Ih | apply Ie | refine IsS84.far ?_ NB0_143.out _) | exact HI0.out)); (case side2 => repeat (first | (with_reducible first | exact HB.out | apply Bb | apply Ba | apply Bc | refine Bd ?_ (IsS84.ge HI0.out) | refine Bd ?_ GE143.out) | exact HB.out)); rintro e w34 ⟨rfl, hi, hb, hk⟩; refine ⟨_, rfl, ?_⟩; have n0_ := am (Kd.S_mono (Kd.S_keep (Ij (show IsS84 w0 _ g s0_0 x1001_2 x1002_2 from by repeat (first | (with_reducible first | exact HI0.out | apply Ia | apply Ib | apply Ic | apply Ih | apply Ie | refine IsS84.far ?_ NB0_143.out _) | exact HI0.out)) (by (with_reducible repeat (first | apply Sa | apply Sb | apply Sc)); exact HO_3.out) (by decide)) hk (fun _ h => h.2)) (fun _ h => h.1)); have n1_ := am (Kd.R_mono (Kd.R_keep (Ig (show IsS84 w0 _ g s0_0 x1001_2 x1002_2 from by repeat (first | (with_reducible first | exact HI0.out | apply Ia | apply Ib | apply Ic | apply Ih | apply Ie | refine IsS84.far ?_ NB0_143.out _) | exact HI0.out)) (by (with_reducible repeat (first | apply Ra | apply Rb | apply Rc)); exact HO_4.out) (by decide)) hk (fun _ h => h.2)) (fun _ h => h.1)); have n2_ := am (Kd.R_mono (Kd.R_keep (Ig (show IsS84 w0 _ g s0_0 x1001_2 x1002_2 from by repeat (first | (with_reducible first | exact HI0.out | apply Ia | apply Ib | apply Ic | apply Ih | apply Ie | refine IsS84.far ?_ NB0_143.out _) | exact HI0.out)) (by (with_reducible repeat (first | apply Ra | apply Rb | apply Rc)); exact HO_144001.out) (by decide)) hk (fun _ h => h.2)) (fun _ h => h.1)); have n3_ := am (Kd.R_mono (Kd.R_keep (Ig (show IsS84 w0 _ g s0_0 x1001_2 x1002_2 from by repeat (first | (with_reducible first | exact HI0.out | apply Ia | apply Ib | apply Ic | apply Ih | apply Ie | refine IsS84.far ?_ NB0_143.out _) | exact HI0.out)) (by (with_reducible repeat (first | apply Ra | apply Rb | apply Rc)); exact HO_144002.out) (by decide)) hk (fun _ h => h.2)) (fun _ h => h.1)); have n4_ := am (KeepBut.blk hk (g' := gb143) (o := .cells #[.string (rdOf ByteArray.empty y129 x5_1), u144001, u144002, .string ((⟨#[114, 117, 110, 32]⟩ : ByteArray) ++ t139), .bool t140] 32 (0, 0)) (by (with_reducible repeat (first | refine blk_drewN ?_ _ | refine blk_drew ?_ | refine blk_alloc ?_ _)); exact BK143.out) NB143_0.out (by simp)); have n5_ := am (KeepBut.trans (by repeat (first | (with_reducible first | exact HK.out | apply Ke | apply Ka | apply Kb | apply Kc | refine keep_far ?_ GW143.out _) | exact HK.out)) hk (.inl rfl)); have n6_ := am (hb); have n7_ := am (hi); clear HO_3; clear HO_4; clear HO_144001; clear HO_144002; clear BK143; clear HK; clear HB; clear HI0; have HO_3 := n0_; have HO_4 := n1_; have HO_144001 := n2_; have HO_144002 := n3_; have BK143 := n4_; have HK := n5_; have HB := n6_; have HI0 := n7_; clear n0_ n1_ n2_ n3_ n4_ n5_ n6_ n7_; (try clear hb); (try clear hb2); (try clear hk); (try clear hi)))
             go_meet
             case rel => exact ⟨_, (true), (t148), (t149), (by first | rfl | (simp; done) | (simp [*]; done)), H', ⟨by have := HK1.out; have := HK2.out; first | omega | exact Nat.le_refl _⟩, ⟨by (with_reducible repeat (first | apply Sa | apply Sb | apply Sc)); exact HO_3.out⟩, ⟨by (with_reducible repeat (first | apply Ra | apply Rb | apply Rc)); exact HO_4.out⟩, ⟨by (with_reducible repeat (first | apply Ra | apply Rb | apply Rc)); exact HO_144001.out⟩, ⟨by (with_reducible repeat (first | apply Ra | apply Rb | apply Rc)); exact HO_144002.out⟩, ⟨by (with_reducible repeat (first | refine blk_drewN ?_ _ | refine blk_drew ?_ | refine blk_alloc ?_ _)); exact BK143.out⟩, ⟨by repeat (first | (with_reducible first | exact HI0.out | apply Ia | apply Ib | apply Ic | apply Ih | apply Ie | refine IsS84.far ?_ NB0_143.out _) | exact HI0.out)⟩, ⟨by repeat (first | (with_reducible first | exact HK.out | apply Ke | apply Ka | apply Kb | apply Kc | refine keep_far ?_ GW143.out _) | exact HK.out)⟩, ⟨by repeat (first | (with_reducible first | exact HB.out | apply Bb | apply Ba | apply Bc | refine Bd ?_ (IsS84.ge HI0.out) | refine Bd ?_ GE143.out) | exact HB.out)⟩⟩
            ·
             rw [if_neg c33] at H
             have c33b0 : decide (x7_2 < x5_1) = false := decide_eq_false c33
             clear c33
             (first | rw [c33b0] | (simp only [i64_w, i32_w]; rw [c33b0]) | skip)
             replace H := Option.bind_eq_some_iff.mp H
             obtain ⟨⟨t150, t151, t152⟩, A350, H⟩ := H
             replace H : (spec_l18Draw.j2 k2 x3_1 y129 x5_1 x7_2 t150 s0_0 t151 t152 (rdOf ByteArray.empty y129 x5_1) x144001_2 x144002_2 ((⟨#[114, 117, 110, 32]⟩ : ByteArray) ++ t139) t140) = some (r1, r2, r3) := H
             have A35 := am A350
             clear A350
             have H' := am H
             clear H
             go_wp2_with (first | ((with_reducible refine gate_callee (f := 60) rfl ?_); refine goesL_ (some 37) rfl rfl Try.func60 (by kernel_rfl) rfl #[.pointer (some ⟨g, 0, none⟩), .int .i64 5] rfl (by (try simp only [List.map_toArray, List.map_cons, List.map_nil]); first | done | rfl | (simp only [List.length_drop, List.length_take]; rfl)) ?_; (with_reducible refine (spec_l1Once.calls g s0_0 x1001_2 x1002_2 5 true t148 t149 w0 _ ?side1 ?side2 A31.out).mono ?_); (case side1 => repeat (first | (with_reducible first | exact HI0.out | apply Ia | apply Ib | apply Ic | apply Ih | apply Ie | refine IsS84.far ?_ NB0_143.out _) | exact HI0.out)); (case side2 => repeat (first | (with_reducible first | exact HB.out | apply Bb | apply Ba | apply Bc | refine Bd ?_ (IsS84.ge HI0.out) | refine Bd ?_ GE143.out) | exact HB.out)); rintro e w36 ⟨rfl, hi, hb, hk⟩; refine ⟨_, rfl, ?_⟩; have n0_ := am (Kd.S_mono (Kd.S_keep (Ij (show IsS84 w0 _ g s0_0 x1001_2 x1002_2 from by repeat (first | (with_reducible first | exact HI0.out | apply Ia | apply Ib | apply Ic | apply Ih | apply Ie | refine IsS84.far ?_ NB0_143.out _) | exact HI0.out)) (by (with_reducible repeat (first | apply Sa | apply Sb | apply Sc)); exact HO_3.out) (by decide)) hk (fun _ h => h.2)) (fun _ h => h.1)); have n1_ := am (Kd.R_mono (Kd.R_keep (Ig (show IsS84 w0 _ g s0_0 x1001_2 x1002_2 from by repeat (first | (with_reducible first | exact HI0.out | apply Ia | apply Ib | apply Ic | apply Ih | apply Ie | refine IsS84.far ?_ NB0_143.out _) | exact HI0.out)) (by (with_reducible repeat (first | apply Ra | apply Rb | apply Rc)); exact HO_4.out) (by decide)) hk (fun _ h => h.2)) (fun _ h => h.1)); have n2_ := am (Kd.R_mono (Kd.R_keep (Ig (show IsS84 w0 _ g s0_0 x1001_2 x1002_2 from by repeat (first | (with_reducible first | exact HI0.out | apply Ia | apply Ib | apply Ic | apply Ih | apply Ie | refine IsS84.far ?_ NB0_143.out _) | exact HI0.out)) (by (with_reducible repeat (first | apply Ra | apply Rb | apply Rc)); exact HO_144001.out) (by decide)) hk (fun _ h => h.2)) (fun _ h => h.1)); have n3_ := am (Kd.R_mono (Kd.R_keep (Ig (show IsS84 w0 _ g s0_0 x1001_2 x1002_2 from by repeat (first | (with_reducible first | exact HI0.out | apply Ia | apply Ib | apply Ic | apply Ih | apply Ie | refine IsS84.far ?_ NB0_143.out _) | exact HI0.out)) (by (with_reducible repeat (first | apply Ra | apply Rb | apply Rc)); exact HO_144002.out) (by decide)) hk (fun _ h => h.2)) (fun _ h => h.1)); have n4_ := am (KeepBut.blk hk (g' := gb143) (o := .cells #[.string (rdOf ByteArray.empty y129 x5_1), u144001, u144002, .string ((⟨#[114, 117, 110, 32]⟩ : ByteArray) ++ t139), .bool t140] 32 (0, 0)) (by (with_reducible repeat (first | refine blk_drewN ?_ _ | refine blk_drew ?_ | refine blk_alloc ?_ _)); exact BK143.out) NB143_0.out (by simp)); have n5_ := am (KeepBut.trans (by repeat (first | (with_reducible first | exact HK.out | apply Ke | apply Ka | apply Kb | apply Kc | refine keep_far ?_ GW143.out _) | exact HK.out)) hk (.inl rfl)); have n6_ := am (hb); have n7_ := am (hi); clear HO_3; clear HO_4; clear HO_144001; clear HO_144002; clear BK143; clear HK; clear HB; clear HI0; have HO_3 := n0_; have HO_4 := n1_; have HO_144001 := n2_; have HO_144002 := n3_; have BK143 := n4_; have HK := n5_; have HB := n6_; have HI0 := n7_; clear n0_ n1_ n2_ n3_ n4_ n5_ n6_ n7_; (try clear hb); (try clear hb2); (try clear hk); (try clear hi)) | (go_at_call 60; (with_reducible refine (spec_l1Once.calls g s0_0 t148 t149 5 t150 t151 t152 w0 _ ?side1 ?side2 A35.out).mono ?_); (case side1 => repeat (first | (with_reducible first | exact HI0.out | apply Ia | apply Ib | apply Ic | apply Ih | apply Ie | refine IsS84.far ?_ NB0_143.out _) | exact HI0.out)); (case side2 => repeat (first | (with_reducible first | exact HB.out | apply Bb | apply Ba | apply Bc | refine Bd ?_ (IsS84.ge HI0.out) | refine Bd ?_ GE143.out) | exact HB.out)); rintro e w37 ⟨rfl, hi, hb, hk⟩; have n0_ := am (Kd.S_mono (Kd.S_keep (Ij (show IsS84 w0 _ g s0_0 t148 t149 from by repeat (first | (with_reducible first | exact HI0.out | apply Ia | apply Ib | apply Ic | apply Ih | apply Ie | refine IsS84.far ?_ NB0_143.out _) | exact HI0.out)) (by (with_reducible repeat (first | apply Sa | apply Sb | apply Sc)); exact HO_3.out) (by decide)) hk (fun _ h => h.2)) (fun _ h => h.1)); have n1_ := am (Kd.R_mono (Kd.R_keep (Ig (show IsS84 w0 _ g s0_0 t148 t149 from by repeat (first | (with_reducible first | exact HI0.out | apply Ia | apply Ib | apply Ic | apply Ih | apply Ie | refine IsS84.far ?_ NB0_143.out _) | exact HI0.out)) (by (with_reducible repeat (first | apply Ra | apply Rb | apply Rc)); exact HO_4.out) (by decide)) hk (fun _ h => h.2)) (fun _ h => h.1)); have n2_ := am (Kd.R_mono (Kd.R_keep (Ig (show IsS84 w0 _ g s0_0 t148 t149 from by repeat (first | (with_reducible first | exact HI0.out | apply Ia | apply Ib | apply Ic | apply Ih | apply Ie | refine IsS84.far ?_ NB0_143.out _) | exact HI0.out)) (by (with_reducible repeat (first | apply Ra | apply Rb | apply Rc)); exact HO_144001.out) (by decide)) hk (fun _ h => h.2)) (fun _ h => h.1)); have n3_ := am (Kd.R_mono (Kd.R_keep (Ig (show IsS84 w0 _ g s0_0 t148 t149 from by repeat (first | (with_reducible first | exact HI0.out | apply Ia | apply Ib | apply Ic | apply Ih | apply Ie | refine IsS84.far ?_ NB0_143.out _) | exact HI0.out)) (by (with_reducible repeat (first | apply Ra | apply Rb | apply Rc)); exact HO_144002.out) (by decide)) hk (fun _ h => h.2)) (fun _ h => h.1)); have n4_ := am (KeepBut.blk hk (g' := gb143) (o := .cells #[.string (rdOf ByteArray.empty y129 x5_1), u144001, u144002, .string ((⟨#[114, 117, 110, 32]⟩ : ByteArray) ++ t139), .bool t140] 32 (0, 0)) (by (with_reducible repeat (first | refine blk_drewN ?_ _ | refine blk_drew ?_ | refine blk_alloc ?_ _)); exact BK143.out) NB143_0.out (by simp)); have n5_ := am (KeepBut.trans (by repeat (first | (with_reducible first | exact HK.out | apply Ke | apply Ka | apply Kb | apply Kc | refine keep_far ?_ GW143.out _) | exact HK.out)) hk (.inl rfl)); have n6_ := am (hb); have n7_ := am (hi); clear HO_3; clear HO_4; clear HO_144001; clear HO_144002; clear BK143; clear HK; clear HB; clear HI0; have HO_3 := n0_; have HO_4 := n1_; have HO_144001 := n2_; have HO_144002 := n3_; have BK143 := n4_; have HK := n5_; have HB := n6_; have HI0 := n7_; clear n0_ n1_ n2_ n3_ n4_ n5_ n6_ n7_; (try clear hb); (try clear hb2); (try clear hk); (try clear hi)))
             go_meet
             case rel => exact ⟨_, (t150), (t151), (t152), (by first | rfl | (simp; done) | (simp [*]; done)), H', ⟨by have := HK1.out; have := HK2.out; first | omega | exact Nat.le_refl _⟩, ⟨by (with_reducible repeat (first | apply Sa | apply Sb | apply Sc)); exact HO_3.out⟩, ⟨by (with_reducible repeat (first | apply Ra | apply Rb | apply Rc)); exact HO_4.out⟩, ⟨by (with_reducible repeat (first | apply Ra | apply Rb | apply Rc)); exact HO_144001.out⟩, ⟨by (with_reducible repeat (first | apply Ra | apply Rb | apply Rc)); exact HO_144002.out⟩, ⟨by (with_reducible repeat (first | refine blk_drewN ?_ _ | refine blk_drew ?_ | refine blk_alloc ?_ _)); exact BK143.out⟩, ⟨by repeat (first | (with_reducible first | exact HI0.out | apply Ia | apply Ib | apply Ic | apply Ih | apply Ie | refine IsS84.far ?_ NB0_143.out _) | exact HI0.out)⟩, ⟨by repeat (first | (with_reducible first | exact HK.out | apply Ke | apply Ka | apply Kb | apply Kc | refine keep_far ?_ GW143.out _) | exact HK.out)⟩, ⟨by repeat (first | (with_reducible first | exact HB.out | apply Bb | apply Ba | apply Bc | refine Bd ?_ (IsS84.ge HI0.out) | refine Bd ?_ GE143.out) | exact HB.out)⟩⟩
           ·
            replace c32 := Bool.eq_false_iff.mpr c32
            subst c32
            have H1 : (spec_l18Draw.j2 k2 x3_1 y129 x5_1 x7_2 false s0_0 t148 t149 (rdOf ByteArray.empty y129 x5_1) x144001_2 x144002_2 ((⟨#[114, 117, 110, 32]⟩ : ByteArray) ++ t139) t140) = some (r1, r2, r3) := by rw [if_neg (show ¬ (false = true) by decide)] at H; exact H
            clear H
            have H := H1
            clear H1
            have H' := am H
            clear H
            go_wp2_with (first | ((with_reducible refine gate_callee (f := 60) rfl ?_); refine goesL_ (some 37) rfl rfl Try.func60 (by kernel_rfl) rfl #[.pointer (some ⟨g, 0, none⟩), .int .i64 5] rfl (by (try simp only [List.map_toArray, List.map_cons, List.map_nil]); first | done | rfl | (simp only [List.length_drop, List.length_take]; rfl)) ?_; (with_reducible refine (spec_l1Once.calls g s0_0 x1001_2 x1002_2 5 false t148 t149 w0 _ ?side1 ?side2 A31.out).mono ?_); (case side1 => repeat (first | (with_reducible first | exact HI0.out | apply Ia | apply Ib | apply Ic | apply Ih | apply Ie | refine IsS84.far ?_ NB0_143.out _) | exact HI0.out)); (case side2 => repeat (first | (with_reducible first | exact HB.out | apply Bb | apply Ba | apply Bc | refine Bd ?_ (IsS84.ge HI0.out) | refine Bd ?_ GE143.out) | exact HB.out)); rintro e w38 ⟨rfl, hi, hb, hk⟩; refine ⟨_, rfl, ?_⟩; have n0_ := am (Kd.S_mono (Kd.S_keep (Ij (show IsS84 w0 _ g s0_0 x1001_2 x1002_2 from by repeat (first | (with_reducible first | exact HI0.out | apply Ia | apply Ib | apply Ic | apply Ih | apply Ie | refine IsS84.far ?_ NB0_143.out _) | exact HI0.out)) (by (with_reducible repeat (first | apply Sa | apply Sb | apply Sc)); exact HO_3.out) (by decide)) hk (fun _ h => h.2)) (fun _ h => h.1)); have n1_ := am (Kd.R_mono (Kd.R_keep (Ig (show IsS84 w0 _ g s0_0 x1001_2 x1002_2 from by repeat (first | (with_reducible first | exact HI0.out | apply Ia | apply Ib | apply Ic | apply Ih | apply Ie | refine IsS84.far ?_ NB0_143.out _) | exact HI0.out)) (by (with_reducible repeat (first | apply Ra | apply Rb | apply Rc)); exact HO_4.out) (by decide)) hk (fun _ h => h.2)) (fun _ h => h.1)); have n2_ := am (Kd.R_mono (Kd.R_keep (Ig (show IsS84 w0 _ g s0_0 x1001_2 x1002_2 from by repeat (first | (with_reducible first | exact HI0.out | apply Ia | apply Ib | apply Ic | apply Ih | apply Ie | refine IsS84.far ?_ NB0_143.out _) | exact HI0.out)) (by (with_reducible repeat (first | apply Ra | apply Rb | apply Rc)); exact HO_144001.out) (by decide)) hk (fun _ h => h.2)) (fun _ h => h.1)); have n3_ := am (Kd.R_mono (Kd.R_keep (Ig (show IsS84 w0 _ g s0_0 x1001_2 x1002_2 from by repeat (first | (with_reducible first | exact HI0.out | apply Ia | apply Ib | apply Ic | apply Ih | apply Ie | refine IsS84.far ?_ NB0_143.out _) | exact HI0.out)) (by (with_reducible repeat (first | apply Ra | apply Rb | apply Rc)); exact HO_144002.out) (by decide)) hk (fun _ h => h.2)) (fun _ h => h.1)); have n4_ := am (KeepBut.blk hk (g' := gb143) (o := .cells #[.string (rdOf ByteArray.empty y129 x5_1), u144001, u144002, .string ((⟨#[114, 117, 110, 32]⟩ : ByteArray) ++ t139), .bool t140] 32 (0, 0)) (by (with_reducible repeat (first | refine blk_drewN ?_ _ | refine blk_drew ?_ | refine blk_alloc ?_ _)); exact BK143.out) NB143_0.out (by simp)); have n5_ := am (KeepBut.trans (by repeat (first | (with_reducible first | exact HK.out | apply Ke | apply Ka | apply Kb | apply Kc | refine keep_far ?_ GW143.out _) | exact HK.out)) hk (.inl rfl)); have n6_ := am (hb); have n7_ := am (hi); clear HO_3; clear HO_4; clear HO_144001; clear HO_144002; clear BK143; clear HK; clear HB; clear HI0; have HO_3 := n0_; have HO_4 := n1_; have HO_144001 := n2_; have HO_144002 := n3_; have BK143 := n4_; have HK := n5_; have HB := n6_; have HI0 := n7_; clear n0_ n1_ n2_ n3_ n4_ n5_ n6_ n7_; (try clear hb); (try clear hb2); (try clear hk); (try clear hi)))
            go_meet
            case rel => exact ⟨_, (false), (t148), (t149), (by first | rfl | (simp; done) | (simp [*]; done)), H', ⟨by have := HK1.out; have := HK2.out; first | omega | exact Nat.le_refl _⟩, ⟨by (with_reducible repeat (first | apply Sa | apply Sb | apply Sc)); exact HO_3.out⟩, ⟨by (with_reducible repeat (first | apply Ra | apply Rb | apply Rc)); exact HO_4.out⟩, ⟨by (with_reducible repeat (first | apply Ra | apply Rb | apply Rc)); exact HO_144001.out⟩, ⟨by (with_reducible repeat (first | apply Ra | apply Rb | apply Rc)); exact HO_144002.out⟩, ⟨by (with_reducible repeat (first | refine blk_drewN ?_ _ | refine blk_drew ?_ | refine blk_alloc ?_ _)); exact BK143.out⟩, ⟨by repeat (first | (with_reducible first | exact HI0.out | apply Ia | apply Ib | apply Ic | apply Ih | apply Ie | refine IsS84.far ?_ NB0_143.out _) | exact HI0.out)⟩, ⟨by repeat (first | (with_reducible first | exact HK.out | apply Ke | apply Ka | apply Kb | apply Kc | refine keep_far ?_ GW143.out _) | exact HK.out)⟩, ⟨by repeat (first | (with_reducible first | exact HB.out | apply Bb | apply Ba | apply Bc | refine Bd ?_ (IsS84.ge HI0.out) | refine Bd ?_ GE143.out) | exact HB.out)⟩⟩
          case rest =>
           clear HC30
           try clear c2
           try clear p2
           try clear c3
           try clear c6
           try clear c29
           try clear c29b0
           try clear c32
           try clear c33
           try clear c33b0
           try clear p2
           obtain ⟨kq, x46_29, x1001_29, x1002_29, rfl, HA, HJ29, HO_3, HO_4, HO_144001, HO_144002, BK143, HI0, HK, HB⟩ := hcut
           cases kq with
           | zero => exact absurd HA.out (by simp [spec_l18Draw.j2])
           | succ kj29 =>
            have H := HA.out
            clear HA
            simp only [spec_l18Draw.j2] at H
            have HC39 := am H
            clear H
            go_upto_if 46 with (fail)
            go_cut [] (fun wc => ∃ (kq : Nat) (x144001_38 : List ByteArray) (u144001 : Value), Aside0 (spec_l18Draw.j3 kq x3_1 y129 x5_1 x7_2 s0_0 x1001_29 x1002_29 (rdOf ByteArray.empty y129 x5_1) x144001_38 x144002_2 ((⟨#[114, 117, 110, 32]⟩ : ByteArray) ++ t139) t140 = some (r1, r2, r3)) ∧ Aside0 (kq ≤ kj29) ∧ Aside0 (Kd.S k32 32 wc w.heap.size (fun k_ => some k_ ≠ ((.slice (some ad135) y129.length co16) : Value).ownBlock ∧ some k_ ≠ (u144001 : Value).ownBlock ∧ some k_ ≠ (u144002 : Value).ownBlock ∧ k_ ≠ gb143) u3 x3_1) ∧ Aside0 (Kd.R Kd.string 9 wc w.heap.size (fun k_ => some k_ ≠ (u144001 : Value).ownBlock ∧ some k_ ≠ (u144002 : Value).ownBlock) (.slice (some ad135) y129.length co16) y129) ∧ Aside0 (Kd.R Kd.string 9 wc w.heap.size (fun k_ => some k_ ≠ ((.slice (some ad135) y129.length co16) : Value).ownBlock ∧ some k_ ≠ (u144002 : Value).ownBlock) u144001 x144001_38) ∧ Aside0 (Kd.R Kd.string 9 wc w.heap.size (fun k_ => some k_ ≠ ((.slice (some ad135) y129.length co16) : Value).ownBlock ∧ some k_ ≠ (u144001 : Value).ownBlock) u144002 x144002_2) ∧ Aside0 (wc.heap[gb143]? = some (.cells #[.string (rdOf ByteArray.empty y129 x5_1), u144001, u144002, .string ((⟨#[114, 117, 110, 32]⟩ : ByteArray) ++ t139), .bool t140] 32 (0, 0))) ∧ Aside0 (IsS84 w0 wc g s0_0 x1001_29 x1002_29) ∧ Aside0 (KeepBut w wc g none) ∧ Aside0 (Below w0.heap.size w0 wc))
            case first =>
             have H := HC39.out
             clear HC39
             by_cases c40 : x46_29 = true
             ·
              subst c40
              have H1 : (if 0 ≤ x7_2 then (if x7_2 < (y129.length : Int) then (if x144001_2.length < 8796093022208 then (spec_l18Draw.j3 kj29 x3_1 y129 x5_1 x7_2 s0_0 x1001_29 x1002_29 (rdOf ByteArray.empty y129 x5_1) (x144001_2 ++ [rdOf ByteArray.empty y129 x7_2]) x144002_2 ((⟨#[114, 117, 110, 32]⟩ : ByteArray) ++ t139) t140) else (none)) else (none)) else (none)) = some (r1, r2, r3) := by rw [if_pos rfl] at H; exact H
              clear H
              have H := H1
              clear H1
              by_cases c41 : 0 ≤ x7_2
              ·
               rw [if_pos c41] at H
               have c41b0 : decide (0 ≤ x7_2) = true := decide_eq_true c41
               clear c41
               (first | rw [c41b0] | (simp only [i64_w, i32_w]; rw [c41b0]) | skip)
               by_cases c42 : x7_2 < (y129.length : Int)
               ·
                rw [if_pos c42] at H
                have c42b0 : decide (x7_2 < (y129.length : Int)) = true := decide_eq_true c42
                clear c42
                by_cases c43 : x144001_2.length < 8796093022208
                ·
                 rw [if_pos c43] at H
                 have LMc43 := am c43
                 clear c43
                 obtain ⟨y154, hy154⟩ : ∃ y_ : List ByteArray, y_ = (x144001_2 ++ [rdOf ByteArray.empty y129 x7_2]) := ⟨_, rfl⟩
                 replace H : (spec_l18Draw.j3 kj29 x3_1 y129 x5_1 x7_2 s0_0 x1001_29 x1002_29 (rdOf ByteArray.empty y129 x5_1) y154 x144002_2 ((⟨#[114, 117, 110, 32]⟩ : ByteArray) ++ t139) t140) = some (r1, r2, r3) := by first | (rw [hy154]; with_reducible exact H) | (have H2_ := (Option.bind_some _ _).symm.trans H; rw [hy154]; with_reducible exact H2_) | (have H2_ := (Option.bind_some _ _).symm.trans H; with_reducible exact H2_) | with_reducible exact H | (rw [hy154]; exact H) | exact H
                 have Ny154 := am hy154
                 clear hy154
                 have H' := am H
                 clear H
                 try go_wp2
                 have n0_ := am (Sc HO_3.out)
                 have n1_ := am (Rc HO_4.out)
                 have n2_ := am (Rc HO_144001.out)
                 have n3_ := am (Rc HO_144002.out)
                 have n4_ := am (blk_drew BK143.out)
                 have n5_ := am (Ic HI0.out)
                 have n6_ := am (Kb HK.out)
                 have n7_ := am (Bc HB.out)
                 clear HO_3
                 clear HO_4
                 clear HO_144001
                 clear HO_144002
                 clear BK143
                 clear HI0
                 clear HK
                 clear HB
                 have HO_3 := n0_
                 have HO_4 := n1_
                 have HO_144001 := n2_
                 have HO_144002 := n3_
                 have BK143 := n4_
                 have HI0 := n5_
                 have HK := n6_
                 have HB := n7_
                 clear n0_ n1_ n2_ n3_ n4_ n5_ n6_ n7_
                 have p153 : 0 ≤ (x7_2 : Int) := of_decide_eq_true (by first | (with_reducible assumption) | assumption)
                 have q153 : x7_2 < (y129.length : Int) := of_decide_eq_true (by first | (with_reducible assumption) | assumption)
                 obtain ⟨ad153, e153, hx153_0⟩ := Kd.at_string (Kd.R_reads' HO_4.out).2.2 x7_2 p153 q153
                 obtain rfl : ad135 = ad153 := (by injection e153)
                 replace p153 := eq_true p153
                 replace q153 := eq_true q153
                 refine start_ (n := 10) (S := fun w' => w'.cell? ⟨gb143, 0, none⟩ = some (.string (rdOf ByteArray.empty y129 x5_1)) ∧ w'.cell? ⟨gb143, 1, none⟩ = some (u144001) ∧ w'.cell? ⟨gb143, 2, none⟩ = some (u144002) ∧ w'.cell? ⟨gb143, 3, none⟩ = some (.string ((⟨#[114, 117, 110, 32]⟩ : ByteArray) ++ t139)) ∧ w'.cell? ⟨gb143, 4, none⟩ = some (.bool t140) ∧ w'.cell? (ad135.add (x7_2).toNat) = some (.string (rdOf ByteArray.empty y129 x7_2))) (ds := [7, 9]) #[false, false, false, false, false, false, false, false, false, false] (by kernel_rfl) rfl rfl ⟨(blk_cell BK143.out 0).trans rfl, (blk_cell BK143.out 1).trans rfl, (blk_cell BK143.out 2).trans rfl, (blk_cell BK143.out 3).trans rfl, (blk_cell BK143.out 4).trans rfl, hx153_0⟩ (fun hHeld => ?_); refine with_tabW spec_l18Draw.tab12 spec_l18Draw.bits12 (fun HT_ HW_ => ?_)
                 generalize wc.drew = w44 at HO_3 HO_4 HO_144001 HO_144002 BK143 HI0 HK HB hx153_0 hHeld ⊢
                 refine pure_ (i := 0) (N := some 47) (v := ?_) (a' := ?_) #[true, false, false, false, false, false, false, false, false, false] rfl rfl (any_of HT_.out (by kernel_rfl)) (fun _ _ _ h => h) (Or.inl ⟨by rfl, ?_⟩) ?_ ?_
                 rotate_left
                 ·
                  intro w'
                  go_simp
                  with_reducible rfl
                 rotate_left
                 ·
                  simp only [Act.put, List.setIfInBounds_toArray, List.set_cons_zero, List.set_cons_succ, i64_w, i32_w]
                  rfl
                 refine pure_ (i := 2) (N := some 49) (v := ?_) (a' := ?_) #[true, false, true, false, false, false, false, false, false, false] rfl rfl (any_of HT_.out (by kernel_rfl)) (fun _ _ _ h => h) (Or.inl ⟨by rfl, ?_⟩) ?_ ?_
                 rotate_left
                 ·
                  intro w'
                  go_simp
                  with_reducible rfl
                 rotate_left
                 ·
                  simp only [Act.put, List.setIfInBounds_toArray, List.set_cons_zero, List.set_cons_succ, i64_w, i32_w]
                  rfl
                 refine pure_ (i := 3) (N := some 50) (v := ?_) (a' := ?_) #[true, false, true, true, false, false, false, false, false, false] rfl rfl (any_of HT_.out (by kernel_rfl)) (fun _ _ _ h => h) (Or.inl ⟨by rfl, ?_⟩) ?_ ?_
                 rotate_left
                 ·
                  intro w'
                  go_simp
                  with_reducible rfl
                 rotate_left
                 ·
                  simp only [Act.put, List.setIfInBounds_toArray, List.set_cons_zero, List.set_cons_succ, i64_w, i32_w]
                  rfl
                 refine pure_ (i := 4) (N := some 51) (v := ?_) (a' := ?_) #[true, false, true, true, true, false, false, false, false, false] rfl rfl (any_of HT_.out (by kernel_rfl)) (fun _ _ _ h => h) (Or.inl ⟨by rfl, ?_⟩) ?_ ?_
                 rotate_left
                 ·
                  intro w'
                  go_simp
                  with_reducible rfl
                 rotate_left
                 ·
                  simp only [Act.put, List.setIfInBounds_toArray, List.set_cons_zero, List.set_cons_succ, i64_w, i32_w]
                  rfl
                 refine take_ (i := 1) (N := some 48) (v := ?_) (a' := ?_) #[true, true, true, true, true, false, false, false, false, false] rfl rfl (take_ofW HT_.out HW_.out (by kernel_rfl)) (fun _ _ _ h => h) (Or.inl ⟨by rfl, ?_⟩) hHeld ?_ ?_
                 rotate_left
                 ·
                  rintro w' ⟨s0, s1, s2, s3, s4, s5⟩
                  go_simp
                  with_reducible rfl
                 rotate_left
                 ·
                  simp only [Act.put, List.setIfInBounds_toArray, List.set_cons_zero, List.set_cons_succ, i64_w, i32_w]
                  rfl
                 refine take_ (i := 5) (N := some 52) (v := ?_) (a' := ?_) #[true, true, true, true, true, true, false, false, false, false] rfl rfl (take_ofW HT_.out HW_.out (by kernel_rfl)) (fun _ _ _ h => h) (Or.inl ⟨by rfl, ?_⟩) hHeld ?_ ?_
                 rotate_left
                 ·
                  rintro w' ⟨s0, s1, s2, s3, s4, s5⟩
                  go_simp
                  with_reducible rfl
                 rotate_left
                 ·
                  simp only [Act.put, List.setIfInBounds_toArray, List.set_cons_zero, List.set_cons_succ, i64_w, i32_w]
                  rfl
                 refine one_ (i := 6) (N := some 53) #[true, true, true, true, true, true, true, false, false, false] rfl rfl (one_of HT_.out (by kernel_rfl)) (by decide) (fun K hK => ?_)
                 refine value_ (w1 := ?_) (v := ?_) (by rfl) rfl ?_ ?_
                 rotate_left 2
                 ·
                  go_simp
                  constructor
                  ·
                   rfl
                  ·
                   rfl
                 refine hK.out _ _ ⟨(blk_cell (blk_alloc BK143.out _) 0).trans rfl, (blk_cell (blk_alloc BK143.out _) 1).trans rfl, (blk_cell (blk_alloc BK143.out _) 2).trans rfl, (blk_cell (blk_alloc BK143.out _) 3).trans rfl, (blk_cell (blk_alloc BK143.out _) 4).trans rfl, (World.cell?_alloc_lt _ _ _ (World.block_lt_of_cell? _ _ (hHeld.2.2.2.2.2))).trans (hHeld.2.2.2.2.2)⟩ (fun hHeld => ?_)
                 clear hK K
                 refine norm_ (a' := ?_) ?_ ?_
                 rotate_left
                 ·
                  show Act.put _ (some 53) _ = _
                  simp only [Act.put, List.setIfInBounds_toArray, List.set_cons_zero, List.set_cons_succ, i64_w, i32_w]
                  rfl
                 refine last_ (i := 7) (N := some 54) #[true, true, true, true, true, true, true, true, false, false] rfl rfl (one_of HT_.out (by kernel_rfl)) (by decide) (fun K hK => ?_)
                 refine Kd.R_append_step Kd.string w.heap.size (by rfl) (.tmp 48) (.tmp 53) 25 9 (.string ⟨#[]⟩) 16 rfl Try.underlying25 info9 rfl (by decide) (by omega) u144001 x144001_2 (rdOf ByteArray.empty y129 x7_2) [.string (rdOf ByteArray.empty y129 x7_2)] (fun k_ => some k_ ≠ (.slice (some ad135) y129.length co16 : Value).ownBlock ∧ some k_ ≠ (u144002 : Value).ownBlock) (fun _ => False) rfl rfl ?aP (fun _ hk => hk.elim) ?aF ?aO (Below.refl _ _) ?aS ?aL ?_
                 (case aP => exact rfl)
                 (case aF => exact (fun k_ hk => ⟨Kd.fresh' (Kd.R_lt (by (with_reducible repeat (first | apply Ra | apply Rb | apply Rc)); exact HO_4.out)) k_ hk, Kd.fresh' (Kd.R_lt (by (with_reducible repeat (first | apply Ra | apply Rb | apply Rc)); exact HO_144002.out)) k_ hk⟩))
                 (case aO => exact (by (with_reducible repeat (first | apply Ra | apply Rb | apply Rc)); exact HO_144001.out))
                 (case aS => exact (keep_size (w := w) (g := g) (row := none) (by repeat (first | (with_reducible first | exact HK.out | apply Ke | apply Ka | apply Kb | apply Kc | refine keep_far ?_ GW143.out _) | exact HK.out))))
                 (case aL => have := LMc43.out; omega)
                 intro v155 w45 ho hb hg hat
                 rw [← Ny154.out] at ho
                 have n0_ := am (Kd.S_after (ok := (fun k_ => some k_ ≠ (.slice (some ad135) y129.length co16 : Value).ownBlock ∧ some k_ ≠ (u144002 : Value).ownBlock ∧ k_ ≠ gb143)) (by (with_reducible repeat (first | apply Sa | apply Sb | apply Sc)); exact Kd.S_mono HO_3.out (fun _ hk => ⟨⟨hk.1, ⟨hk.2.2.1, hk.2.2.2⟩⟩, hk.2.1⟩)) hg hat)
                 have n1_ := am (Kd.R_after (ok := (fun k_ => some k_ ≠ (u144002 : Value).ownBlock)) (by (with_reducible repeat (first | apply Ra | apply Rb | apply Rc)); exact Kd.R_mono HO_4.out (fun _ hk => ⟨hk.2, hk.1⟩)) hg hat)
                 have n2_ := am (Kd.R_after (ok := (fun k_ => some k_ ≠ (.slice (some ad135) y129.length co16 : Value).ownBlock)) (by (with_reducible repeat (first | apply Ra | apply Rb | apply Rc)); exact HO_144002.out) hg hat)
                 have n3_ := am (blk_grown (g := gb143) (o := .cells #[.string (rdOf ByteArray.empty y129 x5_1), u144001, u144002, .string ((⟨#[114, 117, 110, 32]⟩ : ByteArray) ++ t139), .bool t140] 32 (0, 0)) (by (with_reducible repeat (first | refine blk_drewN ?_ _ | refine blk_drew ?_ | refine blk_alloc ?_ _)); exact BK143.out) hg (Kd.R_ne HO_144001.out BK143.out (by decide)))
                 have n4_ := am (IsS84.grown (by repeat (first | (with_reducible first | exact HI0.out | apply Ia | apply Ib | apply Ic | apply Ih | apply Ie | refine IsS84.far ?_ NB0_143.out _) | exact HI0.out)) hg (IsS84.own_ne HI0.out HO_144001.out (by decide)))
                 have n5_ := am (below_weaken (by repeat (first | (with_reducible first | exact HB.out | apply Bb | apply Ba | apply Bc | refine Bd ?_ (IsS84.ge HI0.out) | refine Bd ?_ GE143.out) | exact HB.out)) HL.out hb)
                 have n6_ := am (KeepBut.trans (by repeat (first | (with_reducible first | exact HK.out | apply Ke | apply Ka | apply Kb | apply Kc | refine keep_far ?_ GW143.out _) | exact HK.out)) (KeepBut.of_grown hg g) (Kd.R_base2 HO_144001.out))
                 have n7_ := am (ho)
                 clear HO_3
                 clear HO_4
                 clear HO_144002
                 clear BK143
                 clear HI0
                 clear HB
                 clear HK
                 clear HO_144001
                 have HO_3 := n0_
                 have HO_4 := n1_
                 have HO_144002 := n2_
                 have BK143 := n3_
                 have HI0 := n4_
                 have HB := n5_
                 have HK := n6_
                 have HO156 := n7_
                 clear n0_ n1_ n2_ n3_ n4_ n5_ n6_ n7_
                 clear ho hb hg hat
                 obtain ⟨Ao46, co46, eo46⟩ := Kd.R_slice HO156.out
                 (first | subst eo46 | (injection eo46 with f1_ f2_ f3_; have f4_ := f1_.symm; have f5_ := f3_.symm; clear f1_ f2_ f3_; subst f4_; subst f5_))
                 refine hK.out _ _ ?_
                 clear hK K
                 refine norm_ (a' := ?_) ?_ ?_
                 rotate_left
                 ·
                  show Act.put _ (some 54) _ = _
                  simp only [Act.put, List.setIfInBounds_toArray, List.set_cons_zero, List.set_cons_succ, i64_w, i32_w]
                  rfl
                 refine pure_ (i := 8) (N := some 55) (v := ?_) (a' := ?_) #[true, true, true, true, true, true, true, true, true, false] rfl rfl (any_of HT_.out (by kernel_rfl)) (fun _ _ _ h => h) (Or.inl ⟨by rfl, ?_⟩) ?_ ?_
                 rotate_left
                 ·
                  intro w'
                  go_simp
                  with_reducible rfl
                 rotate_left
                 ·
                  simp only [Act.put, List.setIfInBounds_toArray, List.set_cons_zero, List.set_cons_succ, i64_w, i32_w]
                  rfl
                 refine last_ (i := 9) (N := none) #[true, true, true, true, true, true, true, true, true, true] rfl rfl (one_of HT_.out (by kernel_rfl)) (by decide) (fun K hK => ?_)
                 have hs47 : w45.cell? ⟨gb143, 1, none⟩ = some (u144001) := (blk_cell BK143.out 1).trans rfl
                 have hfs47 := blk_frozen BK143.out 1
                 refine skip_ (w1 := ?_) (by rfl) rfl ?_ ?_
                 rotate_left
                 ·
                  go_simp
                  rfl
                 refine hK.out _ _ ?_
                 clear hK K
                 refine done_ (done_of HT_.out (by kernel_rfl)) ?_
                 try go_wp2
                 go_meet
                 case rel => exact ⟨_, (y154), (.slice Ao46 y154.length co46), H', ⟨by have := HK1.out; have := HK2.out; have := HJ29.out; first | omega | exact Nat.le_refl _⟩, ⟨by (with_reducible repeat (first | apply Sa | apply Sb | apply Sc)); exact Kd.S_mono (Kd.S_far (p := ⟨gb143, 1, none⟩) (Kd.S_mono HO_3.out (fun k_ hk => (⟨hk, hk.1.2.2⟩ : _ ∧ k_ ≠ gb143))) (fun _ hk => hk.2) (.slice Ao46 y154.length co46)) (fun _ hk => ⟨hk.1.1.1, ⟨hk.1.2, ⟨hk.1.1.2.1, hk.1.1.2.2⟩⟩⟩)⟩, ⟨by (with_reducible repeat (first | apply Ra | apply Rb | apply Rc)); exact Kd.R_mono (Kd.R_far (p := ⟨gb143, 1, none⟩) (Kd.R_types HO_4.out BK143.out (by decide)) (fun _ hk => hk.2) (.slice Ao46 y154.length co46)) (fun _ hk => ⟨hk.1.2, hk.1.1⟩)⟩, ⟨by (with_reducible repeat (first | apply Ra | apply Rb | apply Rc)); exact Kd.R_mono (Kd.R_far (p := ⟨gb143, 1, none⟩) (Kd.R_types HO156.out BK143.out (by decide)) (fun _ hk => hk.2) (.slice Ao46 y154.length co46)) (fun _ hk => ⟨hk.1.1, hk.1.2⟩)⟩, ⟨by (with_reducible repeat (first | apply Ra | apply Rb | apply Rc)); exact Kd.R_mono (Kd.R_far (p := ⟨gb143, 1, none⟩) (Kd.R_types HO_144002.out BK143.out (by decide)) (fun _ hk => hk.2) (.slice Ao46 y154.length co46)) (fun _ hk => ⟨hk.1.1, hk.1.2⟩)⟩, ⟨by (with_reducible repeat (first | refine blk_drewN ?_ _ | refine blk_drew ?_ | refine blk_alloc ?_ _)); refine blk_put (cs := #[.string (rdOf ByteArray.empty y129 x5_1), u144001, u144002, .string ((⟨#[114, 117, 110, 32]⟩ : ByteArray) ++ t139), .bool t140]) ?_ 1 _ rfl; (with_reducible repeat (first | refine blk_drewN ?_ _ | refine blk_drew ?_ | refine blk_alloc ?_ _)); exact BK143.out⟩, ⟨by repeat (first | (with_reducible first | exact HI0.out | apply Ia | apply Ib | apply Ic | apply Ih | apply Ie | refine IsS84.far ?_ NB0_143.out _) | exact HI0.out)⟩, ⟨by repeat (first | (with_reducible first | exact HK.out | apply Ke | apply Ka | apply Kb | apply Kc | refine keep_far ?_ GW143.out _) | exact HK.out)⟩, ⟨by repeat (first | (with_reducible first | exact HB.out | apply Bb | apply Ba | apply Bc | refine Bd ?_ (IsS84.ge HI0.out) | refine Bd ?_ GE143.out) | exact HB.out)⟩⟩
                ·
                 rw [if_neg c43] at H
                 exact absurd H (by simp)
               ·
                rw [if_neg c42] at H
                exact absurd H (by simp)
              ·
               rw [if_neg c41] at H
               exact absurd H (by simp)
             ·
              replace c40 := Bool.eq_false_iff.mpr c40
              subst c40
              have H1 : (spec_l18Draw.j3 kj29 x3_1 y129 x5_1 x7_2 s0_0 x1001_29 x1002_29 (rdOf ByteArray.empty y129 x5_1) x144001_2 x144002_2 ((⟨#[114, 117, 110, 32]⟩ : ByteArray) ++ t139) t140) = some (r1, r2, r3) := by rw [if_neg (show ¬ (false = true) by decide)] at H; exact H
              clear H
              have H := H1
              clear H1
              have H' := am H
              clear H
              go_wp2
              go_meet
              case rel => exact ⟨_, (x144001_2), (u144001), H', ⟨by have := HK1.out; have := HK2.out; have := HJ29.out; first | omega | exact Nat.le_refl _⟩, ⟨by (with_reducible repeat (first | apply Sa | apply Sb | apply Sc)); exact HO_3.out⟩, ⟨by (with_reducible repeat (first | apply Ra | apply Rb | apply Rc)); exact HO_4.out⟩, ⟨by (with_reducible repeat (first | apply Ra | apply Rb | apply Rc)); exact HO_144001.out⟩, ⟨by (with_reducible repeat (first | apply Ra | apply Rb | apply Rc)); exact HO_144002.out⟩, ⟨by (with_reducible repeat (first | refine blk_drewN ?_ _ | refine blk_drew ?_ | refine blk_alloc ?_ _)); exact BK143.out⟩, ⟨by repeat (first | (with_reducible first | exact HI0.out | apply Ia | apply Ib | apply Ic | apply Ih | apply Ie | refine IsS84.far ?_ NB0_143.out _) | exact HI0.out)⟩, ⟨by repeat (first | (with_reducible first | exact HK.out | apply Ke | apply Ka | apply Kb | apply Kc | refine keep_far ?_ GW143.out _) | exact HK.out)⟩, ⟨by repeat (first | (with_reducible first | exact HB.out | apply Bb | apply Ba | apply Bc | refine Bd ?_ (IsS84.ge HI0.out) | refine Bd ?_ GE143.out) | exact HB.out)⟩⟩
            case rest =>
             clear HC39
             try clear p1
             try clear q1
             try clear hx1
             try clear c2
             try clear p2
             try clear c3
             try clear c4
             try clear c6
             try clear p15
             try clear q15
             try clear hx15
             try clear c29
             try clear c29b0
             try clear c32
             try clear c33
             try clear c33b0
             try clear c40
             try clear c41
             try clear c41b0
             try clear c42
             try clear c42b0
             try clear c43
             try clear hx153_0
             try clear p153
             try clear p2
             try clear q153
             obtain ⟨kq, x144001_38, u144001, HA, HJ38, HO_3, HO_4, HO_144001, HO_144002, BK143, HI0, HK, HB⟩ := hcut
             cases kq with
             | zero => exact absurd HA.out (by simp [spec_l18Draw.j3])
             | succ kj38 =>
              have H := HA.out
              clear HA
              simp only [spec_l18Draw.j3] at H
              replace H := Option.bind_eq_some_iff.mp H
              obtain ⟨⟨t157, t158, t159⟩, A480, H⟩ := H
              replace H : (if t157 = true then (if x7_2 < x5_1 then (if 0 ≤ x7_2 then (if x7_2 < (y129.length : Int) then (if x144002_2.length < 8796093022208 then (spec_l18Draw.l1 kj38 x3_1 y129 x5_1 (wrap64 (x7_2 + 1)) s0_0 t158 t159 (rdOf ByteArray.empty y129 x5_1) x144001_38 (x144002_2 ++ [rdOf ByteArray.empty y129 x7_2]) ((⟨#[114, 117, 110, 32]⟩ : ByteArray) ++ t139) t140) else (none)) else (none)) else (none)) else ((spec_l1Once.f s0_0 t158 t159 6).bind fun bt164 => (if bt164.1 = true then (if 0 ≤ x7_2 then (if x7_2 < (y129.length : Int) then (if x144002_2.length < 8796093022208 then (spec_l18Draw.l1 kj38 x3_1 y129 x5_1 (wrap64 (x7_2 + 1)) s0_0 bt164.2.1 bt164.2.2 (rdOf ByteArray.empty y129 x5_1) x144001_38 (x144002_2 ++ [rdOf ByteArray.empty y129 x7_2]) ((⟨#[114, 117, 110, 32]⟩ : ByteArray) ++ t139) t140) else (none)) else (none)) else (none)) else (spec_l18Draw.l1 kj38 x3_1 y129 x5_1 (wrap64 (x7_2 + 1)) s0_0 bt164.2.1 bt164.2.2 (rdOf ByteArray.empty y129 x5_1) x144001_38 x144002_2 ((⟨#[114, 117, 110, 32]⟩ : ByteArray) ++ t139) t140)))) else (spec_l18Draw.l1 kj38 x3_1 y129 x5_1 (wrap64 (x7_2 + 1)) s0_0 t158 t159 (rdOf ByteArray.empty y129 x5_1) x144001_38 x144002_2 ((⟨#[114, 117, 110, 32]⟩ : ByteArray) ++ t139) t140)) = some (r1, r2, r3) := H
              have A48 := am A480
              clear A480
              by_cases c49 : t157 = true
              ·
               subst c49
               have H1 : (if x7_2 < x5_1 then (if 0 ≤ x7_2 then (if x7_2 < (y129.length : Int) then (if x144002_2.length < 8796093022208 then (spec_l18Draw.l1 kj38 x3_1 y129 x5_1 (wrap64 (x7_2 + 1)) s0_0 t158 t159 (rdOf ByteArray.empty y129 x5_1) x144001_38 (x144002_2 ++ [rdOf ByteArray.empty y129 x7_2]) ((⟨#[114, 117, 110, 32]⟩ : ByteArray) ++ t139) t140) else (none)) else (none)) else (none)) else ((spec_l1Once.f s0_0 t158 t159 6).bind fun bt164 => (if bt164.1 = true then (if 0 ≤ x7_2 then (if x7_2 < (y129.length : Int) then (if x144002_2.length < 8796093022208 then (spec_l18Draw.l1 kj38 x3_1 y129 x5_1 (wrap64 (x7_2 + 1)) s0_0 bt164.2.1 bt164.2.2 (rdOf ByteArray.empty y129 x5_1) x144001_38 (x144002_2 ++ [rdOf ByteArray.empty y129 x7_2]) ((⟨#[114, 117, 110, 32]⟩ : ByteArray) ++ t139) t140) else (none)) else (none)) else (none)) else (spec_l18Draw.l1 kj38 x3_1 y129 x5_1 (wrap64 (x7_2 + 1)) s0_0 bt164.2.1 bt164.2.2 (rdOf ByteArray.empty y129 x5_1) x144001_38 x144002_2 ((⟨#[114, 117, 110, 32]⟩ : ByteArray) ++ t139) t140)))) = some (r1, r2, r3) := by rw [if_pos rfl] at H; exact H
               clear H
               have H := H1
               clear H1
               by_cases c50 : x7_2 < x5_1
               ·
                rw [if_pos c50] at H
                have c50b0 : decide (x7_2 < x5_1) = true := decide_eq_true c50
                clear c50
                by_cases c51 : 0 ≤ x7_2
                ·
                 rw [if_pos c51] at H
                 have c51b0 : decide (0 ≤ x7_2) = true := decide_eq_true c51
                 clear c51
                 by_cases c52 : x7_2 < (y129.length : Int)
                 ·
                  rw [if_pos c52] at H
                  have c52b0 : decide (x7_2 < (y129.length : Int)) = true := decide_eq_true c52
                  clear c52
                  by_cases c53 : x144002_2.length < 8796093022208
                  ·
                   rw [if_pos c53] at H
                   have LMc53 := am c53
                   clear c53
                   obtain ⟨y161, hy161⟩ : ∃ y_ : List ByteArray, y_ = (x144002_2 ++ [rdOf ByteArray.empty y129 x7_2]) := ⟨_, rfl⟩
                   replace H : (spec_l18Draw.l1 kj38 x3_1 y129 x5_1 (wrap64 (x7_2 + 1)) s0_0 t158 t159 (rdOf ByteArray.empty y129 x5_1) x144001_38 y161 ((⟨#[114, 117, 110, 32]⟩ : ByteArray) ++ t139) t140) = some (r1, r2, r3) := by first | (rw [hy161]; with_reducible exact H) | (have H2_ := (Option.bind_some _ _).symm.trans H; rw [hy161]; with_reducible exact H2_) | (have H2_ := (Option.bind_some _ _).symm.trans H; with_reducible exact H2_) | with_reducible exact H | (rw [hy161]; exact H) | exact H
                   have Ny161 := am hy161
                   clear hy161
                   have H' := am H
                   clear H
                   try go_wp2_with (first | ((with_reducible refine gate_callee (f := 60) rfl ?_); refine goesL_ (some 57) rfl rfl Try.func60 (by kernel_rfl) rfl #[.pointer (some ⟨g, 0, none⟩), .int .i64 6] rfl (by (try simp only [List.map_toArray, List.map_cons, List.map_nil]); first | done | rfl | (simp only [List.length_drop, List.length_take]; rfl)) ?_; (with_reducible refine (spec_l1Once.calls g s0_0 x1001_29 x1002_29 6 true t158 t159 w0 _ ?side1 ?side2 A48.out).mono ?_); (case side1 => repeat (first | (with_reducible first | exact HI0.out | apply Ia | apply Ib | apply Ic | apply Ih | apply Ie | refine IsS84.far ?_ NB0_143.out _) | exact HI0.out)); (case side2 => repeat (first | (with_reducible first | exact HB.out | apply Bb | apply Ba | apply Bc | refine Bd ?_ (IsS84.ge HI0.out) | refine Bd ?_ GE143.out) | exact HB.out)); rintro e w54 ⟨rfl, hi, hb, hk⟩; refine ⟨_, rfl, ?_⟩; have n0_ := am (Kd.S_mono (Kd.S_keep (Ij (show IsS84 w0 _ g s0_0 x1001_29 x1002_29 from by repeat (first | (with_reducible first | exact HI0.out | apply Ia | apply Ib | apply Ic | apply Ih | apply Ie | refine IsS84.far ?_ NB0_143.out _) | exact HI0.out)) (by (with_reducible repeat (first | apply Sa | apply Sb | apply Sc)); exact HO_3.out) (by decide)) hk (fun _ h => h.2)) (fun _ h => h.1)); have n1_ := am (Kd.R_mono (Kd.R_keep (Ig (show IsS84 w0 _ g s0_0 x1001_29 x1002_29 from by repeat (first | (with_reducible first | exact HI0.out | apply Ia | apply Ib | apply Ic | apply Ih | apply Ie | refine IsS84.far ?_ NB0_143.out _) | exact HI0.out)) (by (with_reducible repeat (first | apply Ra | apply Rb | apply Rc)); exact HO_4.out) (by decide)) hk (fun _ h => h.2)) (fun _ h => h.1)); have n2_ := am (Kd.R_mono (Kd.R_keep (Ig (show IsS84 w0 _ g s0_0 x1001_29 x1002_29 from by repeat (first | (with_reducible first | exact HI0.out | apply Ia | apply Ib | apply Ic | apply Ih | apply Ie | refine IsS84.far ?_ NB0_143.out _) | exact HI0.out)) (by (with_reducible repeat (first | apply Ra | apply Rb | apply Rc)); exact HO_144001.out) (by decide)) hk (fun _ h => h.2)) (fun _ h => h.1)); have n3_ := am (Kd.R_mono (Kd.R_keep (Ig (show IsS84 w0 _ g s0_0 x1001_29 x1002_29 from by repeat (first | (with_reducible first | exact HI0.out | apply Ia | apply Ib | apply Ic | apply Ih | apply Ie | refine IsS84.far ?_ NB0_143.out _) | exact HI0.out)) (by (with_reducible repeat (first | apply Ra | apply Rb | apply Rc)); exact HO_144002.out) (by decide)) hk (fun _ h => h.2)) (fun _ h => h.1)); have n4_ := am (KeepBut.blk hk (g' := gb143) (o := .cells #[.string (rdOf ByteArray.empty y129 x5_1), u144001, u144002, .string ((⟨#[114, 117, 110, 32]⟩ : ByteArray) ++ t139), .bool t140] 32 (0, 0)) (by (with_reducible repeat (first | refine blk_drewN ?_ _ | refine blk_drew ?_ | refine blk_alloc ?_ _)); exact BK143.out) NB143_0.out (by simp)); have n5_ := am (KeepBut.trans (by repeat (first | (with_reducible first | exact HK.out | apply Ke | apply Ka | apply Kb | apply Kc | refine keep_far ?_ GW143.out _) | exact HK.out)) hk (.inl rfl)); have n6_ := am (hb); have n7_ := am (hi); clear HO_3; clear HO_4; clear HO_144001; clear HO_144002; clear BK143; clear HK; clear HB; clear HI0; have HO_3 := n0_; have HO_4 := n1_; have HO_144001 := n2_; have HO_144002 := n3_; have BK143 := n4_; have HK := n5_; have HB := n6_; have HI0 := n7_; clear n0_ n1_ n2_ n3_ n4_ n5_ n6_ n7_; (try clear hb); (try clear hb2); (try clear hk); (try clear hi)))
                   have n0_ := am (Sc HO_3.out)
                   have n1_ := am (Rc HO_4.out)
                   have n2_ := am (Rc HO_144001.out)
                   have n3_ := am (Rc HO_144002.out)
                   have n4_ := am (blk_drew BK143.out)
                   have n5_ := am (Ic HI0.out)
                   have n6_ := am (Kb HK.out)
                   have n7_ := am (Bc HB.out)
                   clear HO_3
                   clear HO_4
                   clear HO_144001
                   clear HO_144002
                   clear BK143
                   clear HI0
                   clear HK
                   clear HB
                   have HO_3 := n0_
                   have HO_4 := n1_
                   have HO_144001 := n2_
                   have HO_144002 := n3_
                   have BK143 := n4_
                   have HI0 := n5_
                   have HK := n6_
                   have HB := n7_
                   clear n0_ n1_ n2_ n3_ n4_ n5_ n6_ n7_
                   have p160 : 0 ≤ (x7_2 : Int) := of_decide_eq_true (by first | (with_reducible assumption) | assumption)
                   have q160 : x7_2 < (y129.length : Int) := of_decide_eq_true (by first | (with_reducible assumption) | assumption)
                   obtain ⟨ad160, e160, hx160_0⟩ := Kd.at_string (Kd.R_reads' HO_4.out).2.2 x7_2 p160 q160
                   obtain rfl : ad135 = ad160 := (by injection e160)
                   replace p160 := eq_true p160
                   replace q160 := eq_true q160
                   refine start_ (n := 10) (S := fun w' => w'.cell? ⟨gb143, 0, none⟩ = some (.string (rdOf ByteArray.empty y129 x5_1)) ∧ w'.cell? ⟨gb143, 1, none⟩ = some (u144001) ∧ w'.cell? ⟨gb143, 2, none⟩ = some (u144002) ∧ w'.cell? ⟨gb143, 3, none⟩ = some (.string ((⟨#[114, 117, 110, 32]⟩ : ByteArray) ++ t139)) ∧ w'.cell? ⟨gb143, 4, none⟩ = some (.bool t140) ∧ w'.cell? (ad135.add (x7_2).toNat) = some (.string (rdOf ByteArray.empty y129 x7_2))) (ds := [7, 9]) #[false, false, false, false, false, false, false, false, false, false] (by kernel_rfl) rfl rfl ⟨(blk_cell BK143.out 0).trans rfl, (blk_cell BK143.out 1).trans rfl, (blk_cell BK143.out 2).trans rfl, (blk_cell BK143.out 3).trans rfl, (blk_cell BK143.out 4).trans rfl, hx160_0⟩ (fun hHeld => ?_); refine with_tabW spec_l18Draw.tab14 spec_l18Draw.bits14 (fun HT_ HW_ => ?_)
                   generalize w54.drew = w55 at HO_3 HO_4 HO_144001 HO_144002 BK143 HI0 HK HB hx160_0 hHeld ⊢
                   refine pure_ (i := 0) (N := some 67) (v := ?_) (a' := ?_) #[true, false, false, false, false, false, false, false, false, false] rfl rfl (any_of HT_.out (by kernel_rfl)) (fun _ _ _ h => h) (Or.inl ⟨by rfl, ?_⟩) ?_ ?_
                   rotate_left
                   ·
                    intro w'
                    go_simp
                    with_reducible rfl
                   rotate_left
                   ·
                    simp only [Act.put, List.setIfInBounds_toArray, List.set_cons_zero, List.set_cons_succ, i64_w, i32_w]
                    rfl
                   refine pure_ (i := 2) (N := some 69) (v := ?_) (a' := ?_) #[true, false, true, false, false, false, false, false, false, false] rfl rfl (any_of HT_.out (by kernel_rfl)) (fun _ _ _ h => h) (Or.inl ⟨by rfl, ?_⟩) ?_ ?_
                   rotate_left
                   ·
                    intro w'
                    go_simp
                    with_reducible rfl
                   rotate_left
                   ·
                    simp only [Act.put, List.setIfInBounds_toArray, List.set_cons_zero, List.set_cons_succ, i64_w, i32_w]
                    rfl
                   refine pure_ (i := 3) (N := some 70) (v := ?_) (a' := ?_) #[true, false, true, true, false, false, false, false, false, false] rfl rfl (any_of HT_.out (by kernel_rfl)) (fun _ _ _ h => h) (Or.inl ⟨by rfl, ?_⟩) ?_ ?_
                   rotate_left
                   ·
                    intro w'
                    go_simp
                    with_reducible rfl
                   rotate_left
                   ·
                    simp only [Act.put, List.setIfInBounds_toArray, List.set_cons_zero, List.set_cons_succ, i64_w, i32_w]
                    rfl
                   refine pure_ (i := 4) (N := some 71) (v := ?_) (a' := ?_) #[true, false, true, true, true, false, false, false, false, false] rfl rfl (any_of HT_.out (by kernel_rfl)) (fun _ _ _ h => h) (Or.inl ⟨by rfl, ?_⟩) ?_ ?_
                   rotate_left
                   ·
                    intro w'
                    go_simp
                    with_reducible rfl
                   rotate_left
                   ·
                    simp only [Act.put, List.setIfInBounds_toArray, List.set_cons_zero, List.set_cons_succ, i64_w, i32_w]
                    rfl
                   refine take_ (i := 1) (N := some 68) (v := ?_) (a' := ?_) #[true, true, true, true, true, false, false, false, false, false] rfl rfl (take_ofW HT_.out HW_.out (by kernel_rfl)) (fun _ _ _ h => h) (Or.inl ⟨by rfl, ?_⟩) hHeld ?_ ?_
                   rotate_left
                   ·
                    rintro w' ⟨s0, s1, s2, s3, s4, s5⟩
                    go_simp
                    with_reducible rfl
                   rotate_left
                   ·
                    simp only [Act.put, List.setIfInBounds_toArray, List.set_cons_zero, List.set_cons_succ, i64_w, i32_w]
                    rfl
                   refine take_ (i := 5) (N := some 72) (v := ?_) (a' := ?_) #[true, true, true, true, true, true, false, false, false, false] rfl rfl (take_ofW HT_.out HW_.out (by kernel_rfl)) (fun _ _ _ h => h) (Or.inl ⟨by rfl, ?_⟩) hHeld ?_ ?_
                   rotate_left
                   ·
                    rintro w' ⟨s0, s1, s2, s3, s4, s5⟩
                    go_simp
                    with_reducible rfl
                   rotate_left
                   ·
                    simp only [Act.put, List.setIfInBounds_toArray, List.set_cons_zero, List.set_cons_succ, i64_w, i32_w]
                    rfl
                   refine one_ (i := 6) (N := some 73) #[true, true, true, true, true, true, true, false, false, false] rfl rfl (one_of HT_.out (by kernel_rfl)) (by decide) (fun K hK => ?_)
                   refine value_ (w1 := ?_) (v := ?_) (by rfl) rfl ?_ ?_
                   rotate_left 2
                   ·
                    go_simp
                    constructor
                    ·
                     rfl
                    ·
                     rfl
                   refine hK.out _ _ ⟨(blk_cell (blk_alloc BK143.out _) 0).trans rfl, (blk_cell (blk_alloc BK143.out _) 1).trans rfl, (blk_cell (blk_alloc BK143.out _) 2).trans rfl, (blk_cell (blk_alloc BK143.out _) 3).trans rfl, (blk_cell (blk_alloc BK143.out _) 4).trans rfl, (World.cell?_alloc_lt _ _ _ (World.block_lt_of_cell? _ _ (hHeld.2.2.2.2.2))).trans (hHeld.2.2.2.2.2)⟩ (fun hHeld => ?_)
                   clear hK K
                   refine norm_ (a' := ?_) ?_ ?_
                   rotate_left
                   ·
                    show Act.put _ (some 73) _ = _
                    simp only [Act.put, List.setIfInBounds_toArray, List.set_cons_zero, List.set_cons_succ, i64_w, i32_w]
                    rfl
                   refine last_ (i := 7) (N := some 74) #[true, true, true, true, true, true, true, true, false, false] rfl rfl (one_of HT_.out (by kernel_rfl)) (by decide) (fun K hK => ?_)
                   refine Kd.R_append_step Kd.string w.heap.size (by rfl) (.tmp 68) (.tmp 73) 25 9 (.string ⟨#[]⟩) 16 rfl Try.underlying25 info9 rfl (by decide) (by omega) u144002 x144002_2 (rdOf ByteArray.empty y129 x7_2) [.string (rdOf ByteArray.empty y129 x7_2)] (fun k_ => some k_ ≠ (.slice (some ad135) y129.length co16 : Value).ownBlock ∧ some k_ ≠ (u144001 : Value).ownBlock) (fun _ => False) rfl rfl ?aP (fun _ hk => hk.elim) ?aF ?aO (Below.refl _ _) ?aS ?aL ?_
                   (case aP => exact rfl)
                   (case aF => exact (fun k_ hk => ⟨Kd.fresh' (Kd.R_lt (by (with_reducible repeat (first | apply Ra | apply Rb | apply Rc)); exact HO_4.out)) k_ hk, Kd.fresh' (Kd.R_lt (by (with_reducible repeat (first | apply Ra | apply Rb | apply Rc)); exact HO_144001.out)) k_ hk⟩))
                   (case aO => exact (by (with_reducible repeat (first | apply Ra | apply Rb | apply Rc)); exact HO_144002.out))
                   (case aS => exact (keep_size (w := w) (g := g) (row := none) (by repeat (first | (with_reducible first | exact HK.out | apply Ke | apply Ka | apply Kb | apply Kc | refine keep_far ?_ GW143.out _) | exact HK.out))))
                   (case aL => have := LMc53.out; omega)
                   intro v162 w56 ho hb hg hat
                   rw [← Ny161.out] at ho
                   have n0_ := am (Kd.S_after (ok := (fun k_ => some k_ ≠ (.slice (some ad135) y129.length co16 : Value).ownBlock ∧ some k_ ≠ (u144001 : Value).ownBlock ∧ k_ ≠ gb143)) (by (with_reducible repeat (first | apply Sa | apply Sb | apply Sc)); exact Kd.S_mono HO_3.out (fun _ hk => ⟨⟨hk.1, ⟨hk.2.1, hk.2.2.2⟩⟩, hk.2.2.1⟩)) hg hat)
                   have n1_ := am (Kd.R_after (ok := (fun k_ => some k_ ≠ (u144001 : Value).ownBlock)) (by (with_reducible repeat (first | apply Ra | apply Rb | apply Rc)); exact HO_4.out) hg hat)
                   have n2_ := am (Kd.R_after (ok := (fun k_ => some k_ ≠ (.slice (some ad135) y129.length co16 : Value).ownBlock)) (by (with_reducible repeat (first | apply Ra | apply Rb | apply Rc)); exact HO_144001.out) hg hat)
                   have n3_ := am (blk_grown (g := gb143) (o := .cells #[.string (rdOf ByteArray.empty y129 x5_1), u144001, u144002, .string ((⟨#[114, 117, 110, 32]⟩ : ByteArray) ++ t139), .bool t140] 32 (0, 0)) (by (with_reducible repeat (first | refine blk_drewN ?_ _ | refine blk_drew ?_ | refine blk_alloc ?_ _)); exact BK143.out) hg (Kd.R_ne HO_144002.out BK143.out (by decide)))
                   have n4_ := am (IsS84.grown (by repeat (first | (with_reducible first | exact HI0.out | apply Ia | apply Ib | apply Ic | apply Ih | apply Ie | refine IsS84.far ?_ NB0_143.out _) | exact HI0.out)) hg (IsS84.own_ne HI0.out HO_144002.out (by decide)))
                   have n5_ := am (below_weaken (by repeat (first | (with_reducible first | exact HB.out | apply Bb | apply Ba | apply Bc | refine Bd ?_ (IsS84.ge HI0.out) | refine Bd ?_ GE143.out) | exact HB.out)) HL.out hb)
                   have n6_ := am (KeepBut.trans (by repeat (first | (with_reducible first | exact HK.out | apply Ke | apply Ka | apply Kb | apply Kc | refine keep_far ?_ GW143.out _) | exact HK.out)) (KeepBut.of_grown hg g) (Kd.R_base2 HO_144002.out))
                   have n7_ := am (ho)
                   clear HO_3
                   clear HO_4
                   clear HO_144001
                   clear BK143
                   clear HI0
                   clear HB
                   clear HK
                   clear HO_144002
                   have HO_3 := n0_
                   have HO_4 := n1_
                   have HO_144001 := n2_
                   have BK143 := n3_
                   have HI0 := n4_
                   have HB := n5_
                   have HK := n6_
                   have HO163 := n7_
                   clear n0_ n1_ n2_ n3_ n4_ n5_ n6_ n7_
                   clear ho hb hg hat
                   obtain ⟨Ao57, co57, eo57⟩ := Kd.R_slice HO163.out
                   (first | subst eo57 | (injection eo57 with f1_ f2_ f3_; have f4_ := f1_.symm; have f5_ := f3_.symm; clear f1_ f2_ f3_; subst f4_; subst f5_))
                   refine hK.out _ _ ?_
                   clear hK K
                   refine norm_ (a' := ?_) ?_ ?_
                   rotate_left
                   ·
                    show Act.put _ (some 74) _ = _
                    simp only [Act.put, List.setIfInBounds_toArray, List.set_cons_zero, List.set_cons_succ, i64_w, i32_w]
                    rfl
                   refine pure_ (i := 8) (N := some 75) (v := ?_) (a' := ?_) #[true, true, true, true, true, true, true, true, true, false] rfl rfl (any_of HT_.out (by kernel_rfl)) (fun _ _ _ h => h) (Or.inl ⟨by rfl, ?_⟩) ?_ ?_
                   rotate_left
                   ·
                    intro w'
                    go_simp
                    with_reducible rfl
                   rotate_left
                   ·
                    simp only [Act.put, List.setIfInBounds_toArray, List.set_cons_zero, List.set_cons_succ, i64_w, i32_w]
                    rfl
                   refine last_ (i := 9) (N := none) #[true, true, true, true, true, true, true, true, true, true] rfl rfl (one_of HT_.out (by kernel_rfl)) (by decide) (fun K hK => ?_)
                   have hs58 : w56.cell? ⟨gb143, 2, none⟩ = some (u144002) := (blk_cell BK143.out 2).trans rfl
                   have hfs58 := blk_frozen BK143.out 2
                   refine skip_ (w1 := ?_) (by rfl) rfl ?_ ?_
                   rotate_left
                   ·
                    go_simp
                    rfl
                   refine hK.out _ _ ?_
                   clear hK K
                   refine done_ (done_of HT_.out (by kernel_rfl)) ?_
                   try go_wp2
                   go_roundg kj38
                   case measure => have := HK1.out; have := HK2.out; have := HJ29.out; have := HJ38.out; omega
                   case rel => exact ⟨(wrap64 (x7_2 + 1)), (t158), (t159), (x144001_38), (y161), (u144001), (.slice Ao57 y161.length co57), (by first | rfl | (simp; done) | (simp [*]; done)), H', ⟨by have := HK1.out; have := HK2.out; have := HJ29.out; have := HJ38.out; omega⟩, ⟨by (with_reducible repeat (first | apply Sa | apply Sb | apply Sc)); exact Kd.S_mono (Kd.S_far (p := ⟨gb143, 2, none⟩) (Kd.S_mono HO_3.out (fun k_ hk => (⟨hk, hk.1.2.2⟩ : _ ∧ k_ ≠ gb143))) (fun _ hk => hk.2) (.slice Ao57 y161.length co57)) (fun _ hk => ⟨hk.1.1.1, ⟨hk.1.1.2.1, ⟨hk.1.2, hk.1.1.2.2⟩⟩⟩)⟩, ⟨by (with_reducible repeat (first | apply Ra | apply Rb | apply Rc)); exact Kd.R_mono (Kd.R_far (p := ⟨gb143, 2, none⟩) (Kd.R_types HO_4.out BK143.out (by decide)) (fun _ hk => hk.2) (.slice Ao57 y161.length co57)) (fun _ hk => ⟨hk.1.1, hk.1.2⟩)⟩, ⟨by (with_reducible repeat (first | apply Ra | apply Rb | apply Rc)); exact Kd.R_mono (Kd.R_far (p := ⟨gb143, 2, none⟩) (Kd.R_types HO_144001.out BK143.out (by decide)) (fun _ hk => hk.2) (.slice Ao57 y161.length co57)) (fun _ hk => ⟨hk.1.1, hk.1.2⟩)⟩, ⟨by (with_reducible repeat (first | apply Ra | apply Rb | apply Rc)); exact Kd.R_mono (Kd.R_far (p := ⟨gb143, 2, none⟩) (Kd.R_types HO163.out BK143.out (by decide)) (fun _ hk => hk.2) (.slice Ao57 y161.length co57)) (fun _ hk => ⟨hk.1.1, hk.1.2⟩)⟩, ⟨by (with_reducible repeat (first | refine blk_drewN ?_ _ | refine blk_drew ?_ | refine blk_alloc ?_ _)); refine blk_put (cs := #[.string (rdOf ByteArray.empty y129 x5_1), u144001, u144002, .string ((⟨#[114, 117, 110, 32]⟩ : ByteArray) ++ t139), .bool t140]) ?_ 2 _ rfl; (with_reducible repeat (first | refine blk_drewN ?_ _ | refine blk_drew ?_ | refine blk_alloc ?_ _)); exact BK143.out⟩, ⟨by repeat (first | (with_reducible first | exact HI0.out | apply Ia | apply Ib | apply Ic | apply Ih | apply Ie | refine IsS84.far ?_ NB0_143.out _) | exact HI0.out)⟩, ⟨by repeat (first | (with_reducible first | exact HK.out | apply Ke | apply Ka | apply Kb | apply Kc | refine keep_far ?_ GW143.out _) | exact HK.out)⟩, ⟨by repeat (first | (with_reducible first | exact HB.out | apply Bb | apply Ba | apply Bc | refine Bd ?_ (IsS84.ge HI0.out) | refine Bd ?_ GE143.out) | exact HB.out)⟩⟩
                  ·
                   rw [if_neg c53] at H
                   exact absurd H (by simp)
                 ·
                  rw [if_neg c52] at H
                  exact absurd H (by simp)
                ·
                 rw [if_neg c51] at H
                 exact absurd H (by simp)
               ·
                rw [if_neg c50] at H
                have c50b0 : decide (x7_2 < x5_1) = false := decide_eq_false c50
                clear c50
                replace H := Option.bind_eq_some_iff.mp H
                obtain ⟨⟨t164, t165, t166⟩, A590, H⟩ := H
                replace H : (if t164 = true then (if 0 ≤ x7_2 then (if x7_2 < (y129.length : Int) then (if x144002_2.length < 8796093022208 then (spec_l18Draw.l1 kj38 x3_1 y129 x5_1 (wrap64 (x7_2 + 1)) s0_0 t165 t166 (rdOf ByteArray.empty y129 x5_1) x144001_38 (x144002_2 ++ [rdOf ByteArray.empty y129 x7_2]) ((⟨#[114, 117, 110, 32]⟩ : ByteArray) ++ t139) t140) else (none)) else (none)) else (none)) else (spec_l18Draw.l1 kj38 x3_1 y129 x5_1 (wrap64 (x7_2 + 1)) s0_0 t165 t166 (rdOf ByteArray.empty y129 x5_1) x144001_38 x144002_2 ((⟨#[114, 117, 110, 32]⟩ : ByteArray) ++ t139) t140)) = some (r1, r2, r3) := H
                have A59 := am A590
                clear A590
                by_cases c60 : t164 = true
                ·
                 subst c60
                 have H1 : (if 0 ≤ x7_2 then (if x7_2 < (y129.length : Int) then (if x144002_2.length < 8796093022208 then (spec_l18Draw.l1 kj38 x3_1 y129 x5_1 (wrap64 (x7_2 + 1)) s0_0 t165 t166 (rdOf ByteArray.empty y129 x5_1) x144001_38 (x144002_2 ++ [rdOf ByteArray.empty y129 x7_2]) ((⟨#[114, 117, 110, 32]⟩ : ByteArray) ++ t139) t140) else (none)) else (none)) else (none)) = some (r1, r2, r3) := by rw [if_pos rfl] at H; exact H
                 clear H
                 have H := H1
                 clear H1
                 by_cases c61 : 0 ≤ x7_2
                 ·
                  rw [if_pos c61] at H
                  have c61b0 : decide (0 ≤ x7_2) = true := decide_eq_true c61
                  clear c61
                  by_cases c62 : x7_2 < (y129.length : Int)
                  ·
                   rw [if_pos c62] at H
                   have c62b0 : decide (x7_2 < (y129.length : Int)) = true := decide_eq_true c62
                   clear c62
                   by_cases c63 : x144002_2.length < 8796093022208
                   ·
                    rw [if_pos c63] at H
                    have LMc63 := am c63
                    clear c63
                    obtain ⟨y168, hy168⟩ : ∃ y_ : List ByteArray, y_ = (x144002_2 ++ [rdOf ByteArray.empty y129 x7_2]) := ⟨_, rfl⟩
                    replace H : (spec_l18Draw.l1 kj38 x3_1 y129 x5_1 (wrap64 (x7_2 + 1)) s0_0 t165 t166 (rdOf ByteArray.empty y129 x5_1) x144001_38 y168 ((⟨#[114, 117, 110, 32]⟩ : ByteArray) ++ t139) t140) = some (r1, r2, r3) := by first | (rw [hy168]; with_reducible exact H) | (have H2_ := (Option.bind_some _ _).symm.trans H; rw [hy168]; with_reducible exact H2_) | (have H2_ := (Option.bind_some _ _).symm.trans H; with_reducible exact H2_) | with_reducible exact H | (rw [hy168]; exact H) | exact H
                    have Ny168 := am hy168
                    clear hy168
                    have H' := am H
                    clear H
                    try go_wp2_with (first | ((with_reducible refine gate_callee (f := 60) rfl ?_); refine goesL_ (some 57) rfl rfl Try.func60 (by kernel_rfl) rfl #[.pointer (some ⟨g, 0, none⟩), .int .i64 6] rfl (by (try simp only [List.map_toArray, List.map_cons, List.map_nil]); first | done | rfl | (simp only [List.length_drop, List.length_take]; rfl)) ?_; (with_reducible refine (spec_l1Once.calls g s0_0 x1001_29 x1002_29 6 true t158 t159 w0 _ ?side1 ?side2 A48.out).mono ?_); (case side1 => repeat (first | (with_reducible first | exact HI0.out | apply Ia | apply Ib | apply Ic | apply Ih | apply Ie | refine IsS84.far ?_ NB0_143.out _) | exact HI0.out)); (case side2 => repeat (first | (with_reducible first | exact HB.out | apply Bb | apply Ba | apply Bc | refine Bd ?_ (IsS84.ge HI0.out) | refine Bd ?_ GE143.out) | exact HB.out)); rintro e w64 ⟨rfl, hi, hb, hk⟩; refine ⟨_, rfl, ?_⟩; have n0_ := am (Kd.S_mono (Kd.S_keep (Ij (show IsS84 w0 _ g s0_0 x1001_29 x1002_29 from by repeat (first | (with_reducible first | exact HI0.out | apply Ia | apply Ib | apply Ic | apply Ih | apply Ie | refine IsS84.far ?_ NB0_143.out _) | exact HI0.out)) (by (with_reducible repeat (first | apply Sa | apply Sb | apply Sc)); exact HO_3.out) (by decide)) hk (fun _ h => h.2)) (fun _ h => h.1)); have n1_ := am (Kd.R_mono (Kd.R_keep (Ig (show IsS84 w0 _ g s0_0 x1001_29 x1002_29 from by repeat (first | (with_reducible first | exact HI0.out | apply Ia | apply Ib | apply Ic | apply Ih | apply Ie | refine IsS84.far ?_ NB0_143.out _) | exact HI0.out)) (by (with_reducible repeat (first | apply Ra | apply Rb | apply Rc)); exact HO_4.out) (by decide)) hk (fun _ h => h.2)) (fun _ h => h.1)); have n2_ := am (Kd.R_mono (Kd.R_keep (Ig (show IsS84 w0 _ g s0_0 x1001_29 x1002_29 from by repeat (first | (with_reducible first | exact HI0.out | apply Ia | apply Ib | apply Ic | apply Ih | apply Ie | refine IsS84.far ?_ NB0_143.out _) | exact HI0.out)) (by (with_reducible repeat (first | apply Ra | apply Rb | apply Rc)); exact HO_144001.out) (by decide)) hk (fun _ h => h.2)) (fun _ h => h.1)); have n3_ := am (Kd.R_mono (Kd.R_keep (Ig (show IsS84 w0 _ g s0_0 x1001_29 x1002_29 from by repeat (first | (with_reducible first | exact HI0.out | apply Ia | apply Ib | apply Ic | apply Ih | apply Ie | refine IsS84.far ?_ NB0_143.out _) | exact HI0.out)) (by (with_reducible repeat (first | apply Ra | apply Rb | apply Rc)); exact HO_144002.out) (by decide)) hk (fun _ h => h.2)) (fun _ h => h.1)); have n4_ := am (KeepBut.blk hk (g' := gb143) (o := .cells #[.string (rdOf ByteArray.empty y129 x5_1), u144001, u144002, .string ((⟨#[114, 117, 110, 32]⟩ : ByteArray) ++ t139), .bool t140] 32 (0, 0)) (by (with_reducible repeat (first | refine blk_drewN ?_ _ | refine blk_drew ?_ | refine blk_alloc ?_ _)); exact BK143.out) NB143_0.out (by simp)); have n5_ := am (KeepBut.trans (by repeat (first | (with_reducible first | exact HK.out | apply Ke | apply Ka | apply Kb | apply Kc | refine keep_far ?_ GW143.out _) | exact HK.out)) hk (.inl rfl)); have n6_ := am (hb); have n7_ := am (hi); clear HO_3; clear HO_4; clear HO_144001; clear HO_144002; clear BK143; clear HK; clear HB; clear HI0; have HO_3 := n0_; have HO_4 := n1_; have HO_144001 := n2_; have HO_144002 := n3_; have BK143 := n4_; have HK := n5_; have HB := n6_; have HI0 := n7_; clear n0_ n1_ n2_ n3_ n4_ n5_ n6_ n7_; (try clear hb); (try clear hb2); (try clear hk); (try clear hi)) | (go_at_call 60; (with_reducible refine (spec_l1Once.calls g s0_0 t158 t159 6 true t165 t166 w0 _ ?side1 ?side2 A59.out).mono ?_); (case side1 => repeat (first | (with_reducible first | exact HI0.out | apply Ia | apply Ib | apply Ic | apply Ih | apply Ie | refine IsS84.far ?_ NB0_143.out _) | exact HI0.out)); (case side2 => repeat (first | (with_reducible first | exact HB.out | apply Bb | apply Ba | apply Bc | refine Bd ?_ (IsS84.ge HI0.out) | refine Bd ?_ GE143.out) | exact HB.out)); rintro e w65 ⟨rfl, hi, hb, hk⟩; have n0_ := am (Kd.S_mono (Kd.S_keep (Ij (show IsS84 w0 _ g s0_0 t158 t159 from by repeat (first | (with_reducible first | exact HI0.out | apply Ia | apply Ib | apply Ic | apply Ih | apply Ie | refine IsS84.far ?_ NB0_143.out _) | exact HI0.out)) (by (with_reducible repeat (first | apply Sa | apply Sb | apply Sc)); exact HO_3.out) (by decide)) hk (fun _ h => h.2)) (fun _ h => h.1)); have n1_ := am (Kd.R_mono (Kd.R_keep (Ig (show IsS84 w0 _ g s0_0 t158 t159 from by repeat (first | (with_reducible first | exact HI0.out | apply Ia | apply Ib | apply Ic | apply Ih | apply Ie | refine IsS84.far ?_ NB0_143.out _) | exact HI0.out)) (by (with_reducible repeat (first | apply Ra | apply Rb | apply Rc)); exact HO_4.out) (by decide)) hk (fun _ h => h.2)) (fun _ h => h.1)); have n2_ := am (Kd.R_mono (Kd.R_keep (Ig (show IsS84 w0 _ g s0_0 t158 t159 from by repeat (first | (with_reducible first | exact HI0.out | apply Ia | apply Ib | apply Ic | apply Ih | apply Ie | refine IsS84.far ?_ NB0_143.out _) | exact HI0.out)) (by (with_reducible repeat (first | apply Ra | apply Rb | apply Rc)); exact HO_144001.out) (by decide)) hk (fun _ h => h.2)) (fun _ h => h.1)); have n3_ := am (Kd.R_mono (Kd.R_keep (Ig (show IsS84 w0 _ g s0_0 t158 t159 from by repeat (first | (with_reducible first | exact HI0.out | apply Ia | apply Ib | apply Ic | apply Ih | apply Ie | refine IsS84.far ?_ NB0_143.out _) | exact HI0.out)) (by (with_reducible repeat (first | apply Ra | apply Rb | apply Rc)); exact HO_144002.out) (by decide)) hk (fun _ h => h.2)) (fun _ h => h.1)); have n4_ := am (KeepBut.blk hk (g' := gb143) (o := .cells #[.string (rdOf ByteArray.empty y129 x5_1), u144001, u144002, .string ((⟨#[114, 117, 110, 32]⟩ : ByteArray) ++ t139), .bool t140] 32 (0, 0)) (by (with_reducible repeat (first | refine blk_drewN ?_ _ | refine blk_drew ?_ | refine blk_alloc ?_ _)); exact BK143.out) NB143_0.out (by simp)); have n5_ := am (KeepBut.trans (by repeat (first | (with_reducible first | exact HK.out | apply Ke | apply Ka | apply Kb | apply Kc | refine keep_far ?_ GW143.out _) | exact HK.out)) hk (.inl rfl)); have n6_ := am (hb); have n7_ := am (hi); clear HO_3; clear HO_4; clear HO_144001; clear HO_144002; clear BK143; clear HK; clear HB; clear HI0; have HO_3 := n0_; have HO_4 := n1_; have HO_144001 := n2_; have HO_144002 := n3_; have BK143 := n4_; have HK := n5_; have HB := n6_; have HI0 := n7_; clear n0_ n1_ n2_ n3_ n4_ n5_ n6_ n7_; (try clear hb); (try clear hb2); (try clear hk); (try clear hi)))
                    have n0_ := am (Sc HO_3.out)
                    have n1_ := am (Rc HO_4.out)
                    have n2_ := am (Rc HO_144001.out)
                    have n3_ := am (Rc HO_144002.out)
                    have n4_ := am (blk_drew BK143.out)
                    have n5_ := am (Ic HI0.out)
                    have n6_ := am (Kb HK.out)
                    have n7_ := am (Bc HB.out)
                    clear HO_3
                    clear HO_4
                    clear HO_144001
                    clear HO_144002
                    clear BK143
                    clear HI0
                    clear HK
                    clear HB
                    have HO_3 := n0_
                    have HO_4 := n1_
                    have HO_144001 := n2_
                    have HO_144002 := n3_
                    have BK143 := n4_
                    have HI0 := n5_
                    have HK := n6_
                    have HB := n7_
                    clear n0_ n1_ n2_ n3_ n4_ n5_ n6_ n7_
                    have p167 : 0 ≤ (x7_2 : Int) := of_decide_eq_true (by first | (with_reducible assumption) | assumption)
                    have q167 : x7_2 < (y129.length : Int) := of_decide_eq_true (by first | (with_reducible assumption) | assumption)
                    obtain ⟨ad167, e167, hx167_0⟩ := Kd.at_string (Kd.R_reads' HO_4.out).2.2 x7_2 p167 q167
                    obtain rfl : ad135 = ad167 := (by injection e167)
                    replace p167 := eq_true p167
                    replace q167 := eq_true q167
                    refine start_ (n := 10) (S := fun w' => w'.cell? ⟨gb143, 0, none⟩ = some (.string (rdOf ByteArray.empty y129 x5_1)) ∧ w'.cell? ⟨gb143, 1, none⟩ = some (u144001) ∧ w'.cell? ⟨gb143, 2, none⟩ = some (u144002) ∧ w'.cell? ⟨gb143, 3, none⟩ = some (.string ((⟨#[114, 117, 110, 32]⟩ : ByteArray) ++ t139)) ∧ w'.cell? ⟨gb143, 4, none⟩ = some (.bool t140) ∧ w'.cell? (ad135.add (x7_2).toNat) = some (.string (rdOf ByteArray.empty y129 x7_2))) (ds := [7, 9]) #[false, false, false, false, false, false, false, false, false, false] (by kernel_rfl) rfl rfl ⟨(blk_cell BK143.out 0).trans rfl, (blk_cell BK143.out 1).trans rfl, (blk_cell BK143.out 2).trans rfl, (blk_cell BK143.out 3).trans rfl, (blk_cell BK143.out 4).trans rfl, hx167_0⟩ (fun hHeld => ?_); refine with_tabW spec_l18Draw.tab14 spec_l18Draw.bits14 (fun HT_ HW_ => ?_)
                    generalize w65.drew = w66 at HO_3 HO_4 HO_144001 HO_144002 BK143 HI0 HK HB hx167_0 hHeld ⊢
                    refine pure_ (i := 0) (N := some 67) (v := ?_) (a' := ?_) #[true, false, false, false, false, false, false, false, false, false] rfl rfl (any_of HT_.out (by kernel_rfl)) (fun _ _ _ h => h) (Or.inl ⟨by rfl, ?_⟩) ?_ ?_
                    rotate_left
                    ·
                     intro w'
                     go_simp
                     with_reducible rfl
                    rotate_left
                    ·
                     simp only [Act.put, List.setIfInBounds_toArray, List.set_cons_zero, List.set_cons_succ, i64_w, i32_w]
                     rfl
                    refine pure_ (i := 2) (N := some 69) (v := ?_) (a' := ?_) #[true, false, true, false, false, false, false, false, false, false] rfl rfl (any_of HT_.out (by kernel_rfl)) (fun _ _ _ h => h) (Or.inl ⟨by rfl, ?_⟩) ?_ ?_
                    rotate_left
                    ·
                     intro w'
                     go_simp
                     with_reducible rfl
                    rotate_left
                    ·
                     simp only [Act.put, List.setIfInBounds_toArray, List.set_cons_zero, List.set_cons_succ, i64_w, i32_w]
                     rfl
                    refine pure_ (i := 3) (N := some 70) (v := ?_) (a' := ?_) #[true, false, true, true, false, false, false, false, false, false] rfl rfl (any_of HT_.out (by kernel_rfl)) (fun _ _ _ h => h) (Or.inl ⟨by rfl, ?_⟩) ?_ ?_
                    rotate_left
                    ·
                     intro w'
                     go_simp
                     with_reducible rfl
                    rotate_left
                    ·
                     simp only [Act.put, List.setIfInBounds_toArray, List.set_cons_zero, List.set_cons_succ, i64_w, i32_w]
                     rfl
                    refine pure_ (i := 4) (N := some 71) (v := ?_) (a' := ?_) #[true, false, true, true, true, false, false, false, false, false] rfl rfl (any_of HT_.out (by kernel_rfl)) (fun _ _ _ h => h) (Or.inl ⟨by rfl, ?_⟩) ?_ ?_
                    rotate_left
                    ·
                     intro w'
                     go_simp
                     with_reducible rfl
                    rotate_left
                    ·
                     simp only [Act.put, List.setIfInBounds_toArray, List.set_cons_zero, List.set_cons_succ, i64_w, i32_w]
                     rfl
                    refine take_ (i := 1) (N := some 68) (v := ?_) (a' := ?_) #[true, true, true, true, true, false, false, false, false, false] rfl rfl (take_ofW HT_.out HW_.out (by kernel_rfl)) (fun _ _ _ h => h) (Or.inl ⟨by rfl, ?_⟩) hHeld ?_ ?_
                    rotate_left
                    ·
                     rintro w' ⟨s0, s1, s2, s3, s4, s5⟩
                     go_simp
                     with_reducible rfl
                    rotate_left
                    ·
                     simp only [Act.put, List.setIfInBounds_toArray, List.set_cons_zero, List.set_cons_succ, i64_w, i32_w]
                     rfl
                    refine take_ (i := 5) (N := some 72) (v := ?_) (a' := ?_) #[true, true, true, true, true, true, false, false, false, false] rfl rfl (take_ofW HT_.out HW_.out (by kernel_rfl)) (fun _ _ _ h => h) (Or.inl ⟨by rfl, ?_⟩) hHeld ?_ ?_
                    rotate_left
                    ·
                     rintro w' ⟨s0, s1, s2, s3, s4, s5⟩
                     go_simp
                     with_reducible rfl
                    rotate_left
                    ·
                     simp only [Act.put, List.setIfInBounds_toArray, List.set_cons_zero, List.set_cons_succ, i64_w, i32_w]
                     rfl
                    refine one_ (i := 6) (N := some 73) #[true, true, true, true, true, true, true, false, false, false] rfl rfl (one_of HT_.out (by kernel_rfl)) (by decide) (fun K hK => ?_)
                    refine value_ (w1 := ?_) (v := ?_) (by rfl) rfl ?_ ?_
                    rotate_left 2
                    ·
                     go_simp
                     constructor
                     ·
                      rfl
                     ·
                      rfl
                    refine hK.out _ _ ⟨(blk_cell (blk_alloc BK143.out _) 0).trans rfl, (blk_cell (blk_alloc BK143.out _) 1).trans rfl, (blk_cell (blk_alloc BK143.out _) 2).trans rfl, (blk_cell (blk_alloc BK143.out _) 3).trans rfl, (blk_cell (blk_alloc BK143.out _) 4).trans rfl, (World.cell?_alloc_lt _ _ _ (World.block_lt_of_cell? _ _ (hHeld.2.2.2.2.2))).trans (hHeld.2.2.2.2.2)⟩ (fun hHeld => ?_)
                    clear hK K
                    refine norm_ (a' := ?_) ?_ ?_
                    rotate_left
                    ·
                     show Act.put _ (some 73) _ = _
                     simp only [Act.put, List.setIfInBounds_toArray, List.set_cons_zero, List.set_cons_succ, i64_w, i32_w]
                     rfl
                    refine last_ (i := 7) (N := some 74) #[true, true, true, true, true, true, true, true, false, false] rfl rfl (one_of HT_.out (by kernel_rfl)) (by decide) (fun K hK => ?_)
                    refine Kd.R_append_step Kd.string w.heap.size (by rfl) (.tmp 68) (.tmp 73) 25 9 (.string ⟨#[]⟩) 16 rfl Try.underlying25 info9 rfl (by decide) (by omega) u144002 x144002_2 (rdOf ByteArray.empty y129 x7_2) [.string (rdOf ByteArray.empty y129 x7_2)] (fun k_ => some k_ ≠ (.slice (some ad135) y129.length co16 : Value).ownBlock ∧ some k_ ≠ (u144001 : Value).ownBlock) (fun _ => False) rfl rfl ?aP (fun _ hk => hk.elim) ?aF ?aO (Below.refl _ _) ?aS ?aL ?_
                    (case aP => exact rfl)
                    (case aF => exact (fun k_ hk => ⟨Kd.fresh' (Kd.R_lt (by (with_reducible repeat (first | apply Ra | apply Rb | apply Rc)); exact HO_4.out)) k_ hk, Kd.fresh' (Kd.R_lt (by (with_reducible repeat (first | apply Ra | apply Rb | apply Rc)); exact HO_144001.out)) k_ hk⟩))
                    (case aO => exact (by (with_reducible repeat (first | apply Ra | apply Rb | apply Rc)); exact HO_144002.out))
                    (case aS => exact (keep_size (w := w) (g := g) (row := none) (by repeat (first | (with_reducible first | exact HK.out | apply Ke | apply Ka | apply Kb | apply Kc | refine keep_far ?_ GW143.out _) | exact HK.out))))
                    (case aL => have := LMc63.out; omega)
                    intro v169 w67 ho hb hg hat
                    rw [← Ny168.out] at ho
                    have n0_ := am (Kd.S_after (ok := (fun k_ => some k_ ≠ (.slice (some ad135) y129.length co16 : Value).ownBlock ∧ some k_ ≠ (u144001 : Value).ownBlock ∧ k_ ≠ gb143)) (by (with_reducible repeat (first | apply Sa | apply Sb | apply Sc)); exact Kd.S_mono HO_3.out (fun _ hk => ⟨⟨hk.1, ⟨hk.2.1, hk.2.2.2⟩⟩, hk.2.2.1⟩)) hg hat)
                    have n1_ := am (Kd.R_after (ok := (fun k_ => some k_ ≠ (u144001 : Value).ownBlock)) (by (with_reducible repeat (first | apply Ra | apply Rb | apply Rc)); exact HO_4.out) hg hat)
                    have n2_ := am (Kd.R_after (ok := (fun k_ => some k_ ≠ (.slice (some ad135) y129.length co16 : Value).ownBlock)) (by (with_reducible repeat (first | apply Ra | apply Rb | apply Rc)); exact HO_144001.out) hg hat)
                    have n3_ := am (blk_grown (g := gb143) (o := .cells #[.string (rdOf ByteArray.empty y129 x5_1), u144001, u144002, .string ((⟨#[114, 117, 110, 32]⟩ : ByteArray) ++ t139), .bool t140] 32 (0, 0)) (by (with_reducible repeat (first | refine blk_drewN ?_ _ | refine blk_drew ?_ | refine blk_alloc ?_ _)); exact BK143.out) hg (Kd.R_ne HO_144002.out BK143.out (by decide)))
                    have n4_ := am (IsS84.grown (by repeat (first | (with_reducible first | exact HI0.out | apply Ia | apply Ib | apply Ic | apply Ih | apply Ie | refine IsS84.far ?_ NB0_143.out _) | exact HI0.out)) hg (IsS84.own_ne HI0.out HO_144002.out (by decide)))
                    have n5_ := am (below_weaken (by repeat (first | (with_reducible first | exact HB.out | apply Bb | apply Ba | apply Bc | refine Bd ?_ (IsS84.ge HI0.out) | refine Bd ?_ GE143.out) | exact HB.out)) HL.out hb)
                    have n6_ := am (KeepBut.trans (by repeat (first | (with_reducible first | exact HK.out | apply Ke | apply Ka | apply Kb | apply Kc | refine keep_far ?_ GW143.out _) | exact HK.out)) (KeepBut.of_grown hg g) (Kd.R_base2 HO_144002.out))
                    have n7_ := am (ho)
                    clear HO_3
                    clear HO_4
                    clear HO_144001
                    clear BK143
                    clear HI0
                    clear HB
                    clear HK
                    clear HO_144002
                    have HO_3 := n0_
                    have HO_4 := n1_
                    have HO_144001 := n2_
                    have BK143 := n3_
                    have HI0 := n4_
                    have HB := n5_
                    have HK := n6_
                    have HO170 := n7_
                    clear n0_ n1_ n2_ n3_ n4_ n5_ n6_ n7_
                    clear ho hb hg hat
                    obtain ⟨Ao68, co68, eo68⟩ := Kd.R_slice HO170.out
                    (first | subst eo68 | (injection eo68 with f1_ f2_ f3_; have f4_ := f1_.symm; have f5_ := f3_.symm; clear f1_ f2_ f3_; subst f4_; subst f5_))
                    refine hK.out _ _ ?_
                    clear hK K
                    refine norm_ (a' := ?_) ?_ ?_
                    rotate_left
                    ·
                     show Act.put _ (some 74) _ = _
                     simp only [Act.put, List.setIfInBounds_toArray, List.set_cons_zero, List.set_cons_succ, i64_w, i32_w]
                     rfl
                    refine pure_ (i := 8) (N := some 75) (v := ?_) (a' := ?_) #[true, true, true, true, true, true, true, true, true, false] rfl rfl (any_of HT_.out (by kernel_rfl)) (fun _ _ _ h => h) (Or.inl ⟨by rfl, ?_⟩) ?_ ?_
                    rotate_left
                    ·
                     intro w'
                     go_simp
                     with_reducible rfl
                    rotate_left
                    ·
                     simp only [Act.put, List.setIfInBounds_toArray, List.set_cons_zero, List.set_cons_succ, i64_w, i32_w]
                     rfl
                    refine last_ (i := 9) (N := none) #[true, true, true, true, true, true, true, true, true, true] rfl rfl (one_of HT_.out (by kernel_rfl)) (by decide) (fun K hK => ?_)
                    have hs69 : w67.cell? ⟨gb143, 2, none⟩ = some (u144002) := (blk_cell BK143.out 2).trans rfl
                    have hfs69 := blk_frozen BK143.out 2
                    refine skip_ (w1 := ?_) (by rfl) rfl ?_ ?_
                    rotate_left
                    ·
                     go_simp
                     rfl
                    refine hK.out _ _ ?_
                    clear hK K
                    refine done_ (done_of HT_.out (by kernel_rfl)) ?_
                    try go_wp2
                    go_roundg kj38
                    case measure => have := HK1.out; have := HK2.out; have := HJ29.out; have := HJ38.out; omega
                    case rel => exact ⟨(wrap64 (x7_2 + 1)), (t165), (t166), (x144001_38), (y168), (u144001), (.slice Ao68 y168.length co68), (by first | rfl | (simp; done) | (simp [*]; done)), H', ⟨by have := HK1.out; have := HK2.out; have := HJ29.out; have := HJ38.out; omega⟩, ⟨by (with_reducible repeat (first | apply Sa | apply Sb | apply Sc)); exact Kd.S_mono (Kd.S_far (p := ⟨gb143, 2, none⟩) (Kd.S_mono HO_3.out (fun k_ hk => (⟨hk, hk.1.2.2⟩ : _ ∧ k_ ≠ gb143))) (fun _ hk => hk.2) (.slice Ao68 y168.length co68)) (fun _ hk => ⟨hk.1.1.1, ⟨hk.1.1.2.1, ⟨hk.1.2, hk.1.1.2.2⟩⟩⟩)⟩, ⟨by (with_reducible repeat (first | apply Ra | apply Rb | apply Rc)); exact Kd.R_mono (Kd.R_far (p := ⟨gb143, 2, none⟩) (Kd.R_types HO_4.out BK143.out (by decide)) (fun _ hk => hk.2) (.slice Ao68 y168.length co68)) (fun _ hk => ⟨hk.1.1, hk.1.2⟩)⟩, ⟨by (with_reducible repeat (first | apply Ra | apply Rb | apply Rc)); exact Kd.R_mono (Kd.R_far (p := ⟨gb143, 2, none⟩) (Kd.R_types HO_144001.out BK143.out (by decide)) (fun _ hk => hk.2) (.slice Ao68 y168.length co68)) (fun _ hk => ⟨hk.1.1, hk.1.2⟩)⟩, ⟨by (with_reducible repeat (first | apply Ra | apply Rb | apply Rc)); exact Kd.R_mono (Kd.R_far (p := ⟨gb143, 2, none⟩) (Kd.R_types HO170.out BK143.out (by decide)) (fun _ hk => hk.2) (.slice Ao68 y168.length co68)) (fun _ hk => ⟨hk.1.1, hk.1.2⟩)⟩, ⟨by (with_reducible repeat (first | refine blk_drewN ?_ _ | refine blk_drew ?_ | refine blk_alloc ?_ _)); refine blk_put (cs := #[.string (rdOf ByteArray.empty y129 x5_1), u144001, u144002, .string ((⟨#[114, 117, 110, 32]⟩ : ByteArray) ++ t139), .bool t140]) ?_ 2 _ rfl; (with_reducible repeat (first | refine blk_drewN ?_ _ | refine blk_drew ?_ | refine blk_alloc ?_ _)); exact BK143.out⟩, ⟨by repeat (first | (with_reducible first | exact HI0.out | apply Ia | apply Ib | apply Ic | apply Ih | apply Ie | refine IsS84.far ?_ NB0_143.out _) | exact HI0.out)⟩, ⟨by repeat (first | (with_reducible first | exact HK.out | apply Ke | apply Ka | apply Kb | apply Kc | refine keep_far ?_ GW143.out _) | exact HK.out)⟩, ⟨by repeat (first | (with_reducible first | exact HB.out | apply Bb | apply Ba | apply Bc | refine Bd ?_ (IsS84.ge HI0.out) | refine Bd ?_ GE143.out) | exact HB.out)⟩⟩
                   ·
                    rw [if_neg c63] at H
                    exact absurd H (by simp)
                  ·
                   rw [if_neg c62] at H
                   exact absurd H (by simp)
                 ·
                  rw [if_neg c61] at H
                  exact absurd H (by simp)
                ·
                 replace c60 := Bool.eq_false_iff.mpr c60
                 subst c60
                 have H1 : (spec_l18Draw.l1 kj38 x3_1 y129 x5_1 (wrap64 (x7_2 + 1)) s0_0 t165 t166 (rdOf ByteArray.empty y129 x5_1) x144001_38 x144002_2 ((⟨#[114, 117, 110, 32]⟩ : ByteArray) ++ t139) t140) = some (r1, r2, r3) := by rw [if_neg (show ¬ (false = true) by decide)] at H; exact H
                 clear H
                 have H := H1
                 clear H1
                 have H' := am H
                 clear H
                 go_wp2_with (first | ((with_reducible refine gate_callee (f := 60) rfl ?_); refine goesL_ (some 57) rfl rfl Try.func60 (by kernel_rfl) rfl #[.pointer (some ⟨g, 0, none⟩), .int .i64 6] rfl (by (try simp only [List.map_toArray, List.map_cons, List.map_nil]); first | done | rfl | (simp only [List.length_drop, List.length_take]; rfl)) ?_; (with_reducible refine (spec_l1Once.calls g s0_0 x1001_29 x1002_29 6 true t158 t159 w0 _ ?side1 ?side2 A48.out).mono ?_); (case side1 => repeat (first | (with_reducible first | exact HI0.out | apply Ia | apply Ib | apply Ic | apply Ih | apply Ie | refine IsS84.far ?_ NB0_143.out _) | exact HI0.out)); (case side2 => repeat (first | (with_reducible first | exact HB.out | apply Bb | apply Ba | apply Bc | refine Bd ?_ (IsS84.ge HI0.out) | refine Bd ?_ GE143.out) | exact HB.out)); rintro e w70 ⟨rfl, hi, hb, hk⟩; refine ⟨_, rfl, ?_⟩; have n0_ := am (Kd.S_mono (Kd.S_keep (Ij (show IsS84 w0 _ g s0_0 x1001_29 x1002_29 from by repeat (first | (with_reducible first | exact HI0.out | apply Ia | apply Ib | apply Ic | apply Ih | apply Ie | refine IsS84.far ?_ NB0_143.out _) | exact HI0.out)) (by (with_reducible repeat (first | apply Sa | apply Sb | apply Sc)); exact HO_3.out) (by decide)) hk (fun _ h => h.2)) (fun _ h => h.1)); have n1_ := am (Kd.R_mono (Kd.R_keep (Ig (show IsS84 w0 _ g s0_0 x1001_29 x1002_29 from by repeat (first | (with_reducible first | exact HI0.out | apply Ia | apply Ib | apply Ic | apply Ih | apply Ie | refine IsS84.far ?_ NB0_143.out _) | exact HI0.out)) (by (with_reducible repeat (first | apply Ra | apply Rb | apply Rc)); exact HO_4.out) (by decide)) hk (fun _ h => h.2)) (fun _ h => h.1)); have n2_ := am (Kd.R_mono (Kd.R_keep (Ig (show IsS84 w0 _ g s0_0 x1001_29 x1002_29 from by repeat (first | (with_reducible first | exact HI0.out | apply Ia | apply Ib | apply Ic | apply Ih | apply Ie | refine IsS84.far ?_ NB0_143.out _) | exact HI0.out)) (by (with_reducible repeat (first | apply Ra | apply Rb | apply Rc)); exact HO_144001.out) (by decide)) hk (fun _ h => h.2)) (fun _ h => h.1)); have n3_ := am (Kd.R_mono (Kd.R_keep (Ig (show IsS84 w0 _ g s0_0 x1001_29 x1002_29 from by repeat (first | (with_reducible first | exact HI0.out | apply Ia | apply Ib | apply Ic | apply Ih | apply Ie | refine IsS84.far ?_ NB0_143.out _) | exact HI0.out)) (by (with_reducible repeat (first | apply Ra | apply Rb | apply Rc)); exact HO_144002.out) (by decide)) hk (fun _ h => h.2)) (fun _ h => h.1)); have n4_ := am (KeepBut.blk hk (g' := gb143) (o := .cells #[.string (rdOf ByteArray.empty y129 x5_1), u144001, u144002, .string ((⟨#[114, 117, 110, 32]⟩ : ByteArray) ++ t139), .bool t140] 32 (0, 0)) (by (with_reducible repeat (first | refine blk_drewN ?_ _ | refine blk_drew ?_ | refine blk_alloc ?_ _)); exact BK143.out) NB143_0.out (by simp)); have n5_ := am (KeepBut.trans (by repeat (first | (with_reducible first | exact HK.out | apply Ke | apply Ka | apply Kb | apply Kc | refine keep_far ?_ GW143.out _) | exact HK.out)) hk (.inl rfl)); have n6_ := am (hb); have n7_ := am (hi); clear HO_3; clear HO_4; clear HO_144001; clear HO_144002; clear BK143; clear HK; clear HB; clear HI0; have HO_3 := n0_; have HO_4 := n1_; have HO_144001 := n2_; have HO_144002 := n3_; have BK143 := n4_; have HK := n5_; have HB := n6_; have HI0 := n7_; clear n0_ n1_ n2_ n3_ n4_ n5_ n6_ n7_; (try clear hb); (try clear hb2); (try clear hk); (try clear hi)) | (go_at_call 60; (with_reducible refine (spec_l1Once.calls g s0_0 t158 t159 6 false t165 t166 w0 _ ?side1 ?side2 A59.out).mono ?_); (case side1 => repeat (first | (with_reducible first | exact HI0.out | apply Ia | apply Ib | apply Ic | apply Ih | apply Ie | refine IsS84.far ?_ NB0_143.out _) | exact HI0.out)); (case side2 => repeat (first | (with_reducible first | exact HB.out | apply Bb | apply Ba | apply Bc | refine Bd ?_ (IsS84.ge HI0.out) | refine Bd ?_ GE143.out) | exact HB.out)); rintro e w71 ⟨rfl, hi, hb, hk⟩; have n0_ := am (Kd.S_mono (Kd.S_keep (Ij (show IsS84 w0 _ g s0_0 t158 t159 from by repeat (first | (with_reducible first | exact HI0.out | apply Ia | apply Ib | apply Ic | apply Ih | apply Ie | refine IsS84.far ?_ NB0_143.out _) | exact HI0.out)) (by (with_reducible repeat (first | apply Sa | apply Sb | apply Sc)); exact HO_3.out) (by decide)) hk (fun _ h => h.2)) (fun _ h => h.1)); have n1_ := am (Kd.R_mono (Kd.R_keep (Ig (show IsS84 w0 _ g s0_0 t158 t159 from by repeat (first | (with_reducible first | exact HI0.out | apply Ia | apply Ib | apply Ic | apply Ih | apply Ie | refine IsS84.far ?_ NB0_143.out _) | exact HI0.out)) (by (with_reducible repeat (first | apply Ra | apply Rb | apply Rc)); exact HO_4.out) (by decide)) hk (fun _ h => h.2)) (fun _ h => h.1)); have n2_ := am (Kd.R_mono (Kd.R_keep (Ig (show IsS84 w0 _ g s0_0 t158 t159 from by repeat (first | (with_reducible first | exact HI0.out | apply Ia | apply Ib | apply Ic | apply Ih | apply Ie | refine IsS84.far ?_ NB0_143.out _) | exact HI0.out)) (by (with_reducible repeat (first | apply Ra | apply Rb | apply Rc)); exact HO_144001.out) (by decide)) hk (fun _ h => h.2)) (fun _ h => h.1)); have n3_ := am (Kd.R_mono (Kd.R_keep (Ig (show IsS84 w0 _ g s0_0 t158 t159 from by repeat (first | (with_reducible first | exact HI0.out | apply Ia | apply Ib | apply Ic | apply Ih | apply Ie | refine IsS84.far ?_ NB0_143.out _) | exact HI0.out)) (by (with_reducible repeat (first | apply Ra | apply Rb | apply Rc)); exact HO_144002.out) (by decide)) hk (fun _ h => h.2)) (fun _ h => h.1)); have n4_ := am (KeepBut.blk hk (g' := gb143) (o := .cells #[.string (rdOf ByteArray.empty y129 x5_1), u144001, u144002, .string ((⟨#[114, 117, 110, 32]⟩ : ByteArray) ++ t139), .bool t140] 32 (0, 0)) (by (with_reducible repeat (first | refine blk_drewN ?_ _ | refine blk_drew ?_ | refine blk_alloc ?_ _)); exact BK143.out) NB143_0.out (by simp)); have n5_ := am (KeepBut.trans (by repeat (first | (with_reducible first | exact HK.out | apply Ke | apply Ka | apply Kb | apply Kc | refine keep_far ?_ GW143.out _) | exact HK.out)) hk (.inl rfl)); have n6_ := am (hb); have n7_ := am (hi); clear HO_3; clear HO_4; clear HO_144001; clear HO_144002; clear BK143; clear HK; clear HB; clear HI0; have HO_3 := n0_; have HO_4 := n1_; have HO_144001 := n2_; have HO_144002 := n3_; have BK143 := n4_; have HK := n5_; have HB := n6_; have HI0 := n7_; clear n0_ n1_ n2_ n3_ n4_ n5_ n6_ n7_; (try clear hb); (try clear hb2); (try clear hk); (try clear hi)))
                 go_roundg kj38
                 case measure => have := HK1.out; have := HK2.out; have := HJ29.out; have := HJ38.out; omega
                 case rel => exact ⟨(wrap64 (x7_2 + 1)), (t165), (t166), (x144001_38), (x144002_2), (u144001), (u144002), (by first | rfl | (simp; done) | (simp [*]; done)), H', ⟨by have := HK1.out; have := HK2.out; have := HJ29.out; have := HJ38.out; omega⟩, ⟨by (with_reducible repeat (first | apply Sa | apply Sb | apply Sc)); exact HO_3.out⟩, ⟨by (with_reducible repeat (first | apply Ra | apply Rb | apply Rc)); exact HO_4.out⟩, ⟨by (with_reducible repeat (first | apply Ra | apply Rb | apply Rc)); exact HO_144001.out⟩, ⟨by (with_reducible repeat (first | apply Ra | apply Rb | apply Rc)); exact HO_144002.out⟩, ⟨by (with_reducible repeat (first | refine blk_drewN ?_ _ | refine blk_drew ?_ | refine blk_alloc ?_ _)); exact BK143.out⟩, ⟨by repeat (first | (with_reducible first | exact HI0.out | apply Ia | apply Ib | apply Ic | apply Ih | apply Ie | refine IsS84.far ?_ NB0_143.out _) | exact HI0.out)⟩, ⟨by repeat (first | (with_reducible first | exact HK.out | apply Ke | apply Ka | apply Kb | apply Kc | refine keep_far ?_ GW143.out _) | exact HK.out)⟩, ⟨by repeat (first | (with_reducible first | exact HB.out | apply Bb | apply Ba | apply Bc | refine Bd ?_ (IsS84.ge HI0.out) | refine Bd ?_ GE143.out) | exact HB.out)⟩⟩
              ·
               replace c49 := Bool.eq_false_iff.mpr c49
               subst c49
               have H1 : (spec_l18Draw.l1 kj38 x3_1 y129 x5_1 (wrap64 (x7_2 + 1)) s0_0 t158 t159 (rdOf ByteArray.empty y129 x5_1) x144001_38 x144002_2 ((⟨#[114, 117, 110, 32]⟩ : ByteArray) ++ t139) t140) = some (r1, r2, r3) := by rw [if_neg (show ¬ (false = true) by decide)] at H; exact H
               clear H
               have H := H1
               clear H1
               have H' := am H
               clear H
               go_wp2_with (first | ((with_reducible refine gate_callee (f := 60) rfl ?_); refine goesL_ (some 57) rfl rfl Try.func60 (by kernel_rfl) rfl #[.pointer (some ⟨g, 0, none⟩), .int .i64 6] rfl (by (try simp only [List.map_toArray, List.map_cons, List.map_nil]); first | done | rfl | (simp only [List.length_drop, List.length_take]; rfl)) ?_; (with_reducible refine (spec_l1Once.calls g s0_0 x1001_29 x1002_29 6 false t158 t159 w0 _ ?side1 ?side2 A48.out).mono ?_); (case side1 => repeat (first | (with_reducible first | exact HI0.out | apply Ia | apply Ib | apply Ic | apply Ih | apply Ie | refine IsS84.far ?_ NB0_143.out _) | exact HI0.out)); (case side2 => repeat (first | (with_reducible first | exact HB.out | apply Bb | apply Ba | apply Bc | refine Bd ?_ (IsS84.ge HI0.out) | refine Bd ?_ GE143.out) | exact HB.out)); rintro e w72 ⟨rfl, hi, hb, hk⟩; refine ⟨_, rfl, ?_⟩; have n0_ := am (Kd.S_mono (Kd.S_keep (Ij (show IsS84 w0 _ g s0_0 x1001_29 x1002_29 from by repeat (first | (with_reducible first | exact HI0.out | apply Ia | apply Ib | apply Ic | apply Ih | apply Ie | refine IsS84.far ?_ NB0_143.out _) | exact HI0.out)) (by (with_reducible repeat (first | apply Sa | apply Sb | apply Sc)); exact HO_3.out) (by decide)) hk (fun _ h => h.2)) (fun _ h => h.1)); have n1_ := am (Kd.R_mono (Kd.R_keep (Ig (show IsS84 w0 _ g s0_0 x1001_29 x1002_29 from by repeat (first | (with_reducible first | exact HI0.out | apply Ia | apply Ib | apply Ic | apply Ih | apply Ie | refine IsS84.far ?_ NB0_143.out _) | exact HI0.out)) (by (with_reducible repeat (first | apply Ra | apply Rb | apply Rc)); exact HO_4.out) (by decide)) hk (fun _ h => h.2)) (fun _ h => h.1)); have n2_ := am (Kd.R_mono (Kd.R_keep (Ig (show IsS84 w0 _ g s0_0 x1001_29 x1002_29 from by repeat (first | (with_reducible first | exact HI0.out | apply Ia | apply Ib | apply Ic | apply Ih | apply Ie | refine IsS84.far ?_ NB0_143.out _) | exact HI0.out)) (by (with_reducible repeat (first | apply Ra | apply Rb | apply Rc)); exact HO_144001.out) (by decide)) hk (fun _ h => h.2)) (fun _ h => h.1)); have n3_ := am (Kd.R_mono (Kd.R_keep (Ig (show IsS84 w0 _ g s0_0 x1001_29 x1002_29 from by repeat (first | (with_reducible first | exact HI0.out | apply Ia | apply Ib | apply Ic | apply Ih | apply Ie | refine IsS84.far ?_ NB0_143.out _) | exact HI0.out)) (by (with_reducible repeat (first | apply Ra | apply Rb | apply Rc)); exact HO_144002.out) (by decide)) hk (fun _ h => h.2)) (fun _ h => h.1)); have n4_ := am (KeepBut.blk hk (g' := gb143) (o := .cells #[.string (rdOf ByteArray.empty y129 x5_1), u144001, u144002, .string ((⟨#[114, 117, 110, 32]⟩ : ByteArray) ++ t139), .bool t140] 32 (0, 0)) (by (with_reducible repeat (first | refine blk_drewN ?_ _ | refine blk_drew ?_ | refine blk_alloc ?_ _)); exact BK143.out) NB143_0.out (by simp)); have n5_ := am (KeepBut.trans (by repeat (first | (with_reducible first | exact HK.out | apply Ke | apply Ka | apply Kb | apply Kc | refine keep_far ?_ GW143.out _) | exact HK.out)) hk (.inl rfl)); have n6_ := am (hb); have n7_ := am (hi); clear HO_3; clear HO_4; clear HO_144001; clear HO_144002; clear BK143; clear HK; clear HB; clear HI0; have HO_3 := n0_; have HO_4 := n1_; have HO_144001 := n2_; have HO_144002 := n3_; have BK143 := n4_; have HK := n5_; have HB := n6_; have HI0 := n7_; clear n0_ n1_ n2_ n3_ n4_ n5_ n6_ n7_; (try clear hb); (try clear hb2); (try clear hk); (try clear hi)))
               go_roundg kj38
               case measure => have := HK1.out; have := HK2.out; have := HJ29.out; have := HJ38.out; omega
               case rel => exact ⟨(wrap64 (x7_2 + 1)), (t158), (t159), (x144001_38), (x144002_2), (u144001), (u144002), (by first | rfl | (simp; done) | (simp [*]; done)), H', ⟨by have := HK1.out; have := HK2.out; have := HJ29.out; have := HJ38.out; omega⟩, ⟨by (with_reducible repeat (first | apply Sa | apply Sb | apply Sc)); exact HO_3.out⟩, ⟨by (with_reducible repeat (first | apply Ra | apply Rb | apply Rc)); exact HO_4.out⟩, ⟨by (with_reducible repeat (first | apply Ra | apply Rb | apply Rc)); exact HO_144001.out⟩, ⟨by (with_reducible repeat (first | apply Ra | apply Rb | apply Rc)); exact HO_144002.out⟩, ⟨by (with_reducible repeat (first | refine blk_drewN ?_ _ | refine blk_drew ?_ | refine blk_alloc ?_ _)); exact BK143.out⟩, ⟨by repeat (first | (with_reducible first | exact HI0.out | apply Ia | apply Ib | apply Ic | apply Ih | apply Ie | refine IsS84.far ?_ NB0_143.out _) | exact HI0.out)⟩, ⟨by repeat (first | (with_reducible first | exact HK.out | apply Ke | apply Ka | apply Kb | apply Kc | refine keep_far ?_ GW143.out _) | exact HK.out)⟩, ⟨by repeat (first | (with_reducible first | exact HB.out | apply Bb | apply Ba | apply Bc | refine Bd ?_ (IsS84.ge HI0.out) | refine Bd ?_ GE143.out) | exact HB.out)⟩⟩
         ·
          rw [if_neg c29] at H
          have c29b0 : decide (x7_2 < (y129.length : Int)) = false := decide_eq_false c29
          clear c29
          by_cases c73 : x3_1.length < 1599289640401
          ·
           rw [if_pos c73] at H
           have LMc73 := am c73
           clear c73
           obtain ⟨y144, hy144⟩ : ∃ y_ : List (S32), y_ = (x3_1 ++ [(⟨(rdOf ByteArray.empty y129 x5_1), x144001_2, x144002_2, ((⟨#[114, 117, 110, 32]⟩ : ByteArray) ++ t139), t140⟩ : S32)]) := ⟨_, rfl⟩
           replace H : (spec_l18Draw.l0 k2 y144 y129 (wrap64 (x5_1 + 1)) s0_0 x1001_2 x1002_2) = some (r1, r2, r3) := by first | (rw [hy144]; with_reducible exact H) | (have H2_ := (Option.bind_some _ _).symm.trans H; rw [hy144]; with_reducible exact H2_) | (have H2_ := (Option.bind_some _ _).symm.trans H; with_reducible exact H2_) | with_reducible exact H | (rw [hy144]; exact H) | exact H
           have Ny144 := am hy144
           clear hy144
           have H' := am H
           clear H
           have hnb74 := NB143_0.out
           have hnc74 := NB0_143.out
           have hcz75_0 : wr.cell? ⟨gb143, 0, none⟩ = some (.string (rdOf ByteArray.empty y129 x5_1)) := (blk_cell BK143.out 0).trans rfl
           have hcz75_1 : wr.cell? ⟨gb143, 1, none⟩ = some (u144001) := (blk_cell BK143.out 1).trans rfl
           have hcz75_2 : wr.cell? ⟨gb143, 2, none⟩ = some (u144002) := (blk_cell BK143.out 2).trans rfl
           have hcz75_3 : wr.cell? ⟨gb143, 3, none⟩ = some (.string ((⟨#[114, 117, 110, 32]⟩ : ByteArray) ++ t139)) := (blk_cell BK143.out 3).trans rfl
           have hcz75_4 : wr.cell? ⟨gb143, 4, none⟩ = some (.bool t140) := (blk_cell BK143.out 4).trans rfl
           have hfz75_0 := blk_frozen BK143.out 0
           have hfz75_1 := blk_frozen BK143.out 1
           have hfz75_2 := blk_frozen BK143.out 2
           have hfz75_3 := blk_frozen BK143.out 3
           have hfz75_4 := blk_frozen BK143.out 4
           obtain ⟨Ao77, co77, eo77⟩ := Kd.R_slice HO_144001.out
           subst eo77
           obtain ⟨Ao78, co78, eo78⟩ := Kd.R_slice HO_144002.out
           subst eo78
           go_wp2_with (first | ((with_reducible refine gate_builtin (b := .append) (xs := #[.tmp 76, .tmp 78]) rfl ?_); (try (refine gate_guard (by rfl) ?_; dsimp only)); at_builtin; refine Kd.S_append k32 w.heap.size rfl (.tmp 76) (.tmp 78) 24 32 (.agg #[(.string ⟨#[]⟩), (.slice none 0 0), (.slice none 0 0), (.string ⟨#[]⟩), (.bool false)]) 88 rfl Try.underlying24 info32 rfl (by decide) (by omega) u3 x3_1 (⟨(rdOf ByteArray.empty y129 x5_1), x144001_2, x144002_2, ((⟨#[114, 117, 110, 32]⟩ : ByteArray) ++ t139), t140⟩ : S32) [.string (rdOf ByteArray.empty y129 x5_1), .slice Ao77 x144001_2.length co77, .slice Ao78 x144002_2.length co78, .string ((⟨#[114, 117, 110, 32]⟩ : ByteArray) ++ t139), .bool t140] (fun k_ => some k_ ≠ (.slice (some ad135) y129.length co16 : Value).ownBlock ∧ k_ ≠ gb143) (fun k_ => some k_ = (.slice Ao77 x144001_2.length co77 : Value).ownBlock ∨ some k_ = (.slice Ao78 x144002_2.length co78 : Value).ownBlock) rfl rfl ?aP (fun k_ hk_ => hk_.elim (fun h_ => ((Kd.R_mono (ok' := fun k_ => ((fun k_ => some k_ ≠ (.slice (some ad135) y129.length co16 : Value).ownBlock ∧ k_ ≠ gb143)) k_ ∧ some k_ ≠ (u3 : Value).ownBlock) (Kd.R_types (Kd.R_apart' (HO_144001.out) (Kd.S_typed HO_3.out) (by decide)) BK143.out (by decide)) (fun k_ hk => ⟨⟨hk.1.1.1, hk.2⟩, hk.1.2⟩))).1 k_ h_.symm) (fun h_ => ((Kd.R_mono (ok' := fun k_ => ((fun k_ => some k_ ≠ (.slice (some ad135) y129.length co16 : Value).ownBlock ∧ k_ ≠ gb143)) k_ ∧ some k_ ≠ (u3 : Value).ownBlock) (Kd.R_types (Kd.R_apart' (HO_144002.out) (Kd.S_typed HO_3.out) (by decide)) BK143.out (by decide)) (fun k_ hk => ⟨⟨hk.1.1.1, hk.2⟩, hk.1.2⟩))).1 k_ h_.symm)) ?aF ?aO (Below.refl _ _) ?aS ?aL ?_; (case aP => exact k32_mkM _ _ _ (⟨(rdOf ByteArray.empty y129 x5_1), x144001_2, x144002_2, ((⟨#[114, 117, 110, 32]⟩ : ByteArray) ++ t139), t140⟩ : S32) (Kd.R_mono (Kd.R_tight rfl (Kd.R_mono (ok' := fun k_ => ((fun k_ => some k_ ≠ (.slice (some ad135) y129.length co16 : Value).ownBlock ∧ k_ ≠ gb143)) k_ ∧ some k_ ≠ (u3 : Value).ownBlock) (Kd.R_types (Kd.R_apart' (HO_144001.out) (Kd.S_typed HO_3.out) (by decide)) BK143.out (by decide)) (fun k_ hk => ⟨⟨hk.1.1.1, hk.2⟩, hk.1.2⟩))) (fun _ h_ => Or.inl h_)) (Kd.R_mono (Kd.R_tight rfl (Kd.R_mono (ok' := fun k_ => ((fun k_ => some k_ ≠ (.slice (some ad135) y129.length co16 : Value).ownBlock ∧ k_ ≠ gb143)) k_ ∧ some k_ ≠ (u3 : Value).ownBlock) (Kd.R_types (Kd.R_apart' (HO_144002.out) (Kd.S_typed HO_3.out) (by decide)) BK143.out (by decide)) (fun k_ hk => ⟨⟨hk.1.1.1, hk.2⟩, hk.1.2⟩))) (fun _ h_ => Or.inr (h_)))); (case aF => exact (fun k_ hk => ⟨Kd.fresh' (Kd.R_lt (by (with_reducible repeat (first | apply Ra | apply Rb | apply Rc)); exact HO_4.out)) k_ hk, Kd.freshB (g := gb143) (o := .cells #[.string (rdOf ByteArray.empty y129 x5_1), .slice Ao77 x144001_2.length co77, .slice Ao78 x144002_2.length co78, .string ((⟨#[114, 117, 110, 32]⟩ : ByteArray) ++ t139), .bool t140] 32 (0, 0)) (by (with_reducible repeat (first | refine blk_drewN ?_ _ | refine blk_drew ?_ | refine blk_alloc ?_ _)); exact BK143.out) k_ hk⟩)); (case aO => exact (by (with_reducible repeat (first | apply Sa | apply Sb | apply Sc)); exact Kd.S_mono HO_3.out (fun k_ hk => ⟨⟨hk.1, hk.2.2.2⟩, fun e_ => e_.elim (fun h_ => hk.2.1 h_) (fun h_ => hk.2.2.1 h_)⟩))); (case aS => exact (keep_size (w := w) (g := g) (row := none) (by repeat (first | (with_reducible first | exact HK.out | apply Ke | apply Ka | apply Kb | apply Kc | refine keep_far ?_ GW143.out _) | exact HK.out)))); (case aL => have := LMc73.out; omega); intro v145 w76 ho hb hg hat; rw [← Ny144.out] at ho; have n0_ := am (Kd.R_over' (by (with_reducible repeat (first | apply Ra | apply Rb | apply Rc)); exact HO_4.out) (Kd.S_typed (by (with_reducible repeat (first | apply Sa | apply Sb | apply Sc)); exact HO_3.out)) (by decide) hg); have n1_ := am (blk_grown (g := gb143) (o := .cells #[.string (rdOf ByteArray.empty y129 x5_1), .slice Ao77 x144001_2.length co77, .slice Ao78 x144002_2.length co78, .string ((⟨#[114, 117, 110, 32]⟩ : ByteArray) ++ t139), .bool t140] 32 (0, 0)) (by (with_reducible repeat (first | refine blk_drewN ?_ _ | refine blk_drew ?_ | refine blk_alloc ?_ _)); exact BK143.out) hg (Kd.S_away HO_3.out (fun _ hk => hk.2.2.2))); have n2_ := am (IsS84.grown (by repeat (first | (with_reducible first | exact HI0.out | apply Ia | apply Ib | apply Ic | apply Ih | apply Ie | refine IsS84.far ?_ NB0_143.out _) | exact HI0.out)) hg (IsS84.own_neS HI0.out HO_3.out (by decide))); have n3_ := am (below_weaken (by repeat (first | (with_reducible first | exact HB.out | apply Bb | apply Ba | apply Bc | refine Bd ?_ (IsS84.ge HI0.out) | refine Bd ?_ GE143.out) | exact HB.out)) HL.out hb); have n4_ := am (KeepBut.trans (by repeat (first | (with_reducible first | exact HK.out | apply Ke | apply Ka | apply Kb | apply Kc | refine keep_far ?_ GW143.out _) | exact HK.out)) (KeepBut.of_grown hg g) (Kd.S_base2 HO_3.out)); have n5_ := am (ho); clear HO_4; clear BK143; clear HI0; clear HB; clear HK; clear HO_3; clear HO_144001; clear HO_144002; have HO_4 := n0_; have BK143 := n1_; have HI0 := n2_; have HB := n3_; have HK := n4_; have HO146 := n5_; clear n0_ n1_ n2_ n3_ n4_ n5_; clear ho hb hg hat))
           go_roundg k2
           case measure => have := HK1.out; have := HK2.out; omega
           case rel => exact ⟨(y144), (wrap64 (x5_1 + 1)), (x1001_2), (x1002_2), (by first | rfl | (simp; done) | (simp [*]; done)), H', ⟨by have := HK1.out; have := HK2.out; omega⟩, ⟨by (with_reducible repeat (first | apply Sa | apply Sb | apply Sc)); exact Kd.S_mono HO146.out (fun _ hk => hk.1)⟩, ⟨by (with_reducible repeat (first | apply Ra | apply Rb | apply Rc)); exact Kd.R_mono HO_4.out (fun _ hk => trivial)⟩, ⟨by repeat (first | (with_reducible first | exact HI0.out | apply Ia | apply Ib | apply Ic | apply Ih | apply Ie | refine IsS84.far ?_ NB0_143.out _) | exact HI0.out)⟩, ⟨by repeat (first | (with_reducible first | exact HK.out | apply Ke | apply Ka | apply Kb | apply Kc | refine keep_far ?_ GW143.out _) | exact HK.out)⟩, ⟨by repeat (first | (with_reducible first | exact HB.out | apply Bb | apply Ba | apply Bc | refine Bd ?_ (IsS84.ge HI0.out) | refine Bd ?_ GE143.out) | exact HB.out)⟩⟩
          ·
           rw [if_neg c73] at H
           exact absurd H (by simp)
      ·
       rw [if_neg c14] at H
       exact absurd H (by simp)
     ·
      rw [if_neg c11] at H
      exact absurd H (by simp)
   ·
    rw [if_neg c6] at H
    have c6b0 : decide (x5_1 < (y129.length : Int)) = false := decide_eq_false c6
    clear c6
    have HC79 := am H
    clear H
    obtain ⟨Ao80, co80, eo80⟩ := Kd.R_slice HO_4.out
    subst eo80
    go_upto_region 16 with (fail)
    go_cut [86] (fun v86 wc => ∃ (kq : Nat) (x86_78 : Bool) (x1001_78 : Int) (x1002_78 : Int), v86 = .bool x86_78 ∧ Aside0 (spec_l18Draw.j4 kq x3_1 x86_78 s0_0 x1001_78 x1002_78 = some (r1, r2, r3)) ∧ Aside0 (kq ≤ k1) ∧ Aside0 (Kd.S k32 32 wc w.heap.size (fun _ => True) u3 x3_1) ∧ Aside0 (IsS84 w0 wc g s0_0 x1001_78 x1002_78) ∧ Aside0 (KeepBut w wc g none) ∧ Aside0 (Below w0.heap.size w0 wc))
    case first =>
     have H := HC79.out
     clear HC79
     replace H := Option.bind_eq_some_iff.mp H
     obtain ⟨⟨t171, t172, t173⟩, A810, H⟩ := H
     replace H : (if t171 = true then (spec_l18Draw.j4 k1 x3_1 (decide ((x3_1.length : Int) > 0)) s0_0 t172 t173) else (spec_l18Draw.j4 k1 x3_1 false s0_0 t172 t173)) = some (r1, r2, r3) := H
     have A81 := am A810
     clear A810
     by_cases c82 : t171 = true
     ·
      subst c82
      have H1 : (spec_l18Draw.j4 k1 x3_1 (decide ((x3_1.length : Int) > 0)) s0_0 t172 t173) = some (r1, r2, r3) := by rw [if_pos rfl] at H; exact H
      clear H
      have H := H1
      clear H1
      have H' := am H
      clear H
      go_wp2_with (first | ((with_reducible refine gate_callee (f := 60) rfl ?_); refine goesL_ (some 81) rfl rfl Try.func60 (by kernel_rfl) rfl #[.pointer (some ⟨g, 0, none⟩), .int .i64 14] rfl (by (try simp only [List.map_toArray, List.map_cons, List.map_nil]); first | done | rfl | (simp only [List.length_drop, List.length_take]; rfl)) ?_; (with_reducible refine (spec_l1Once.calls g s0_0 x1001_1 x1002_1 14 true t172 t173 w0 _ ?side1 ?side2 A81.out).mono ?_); (case side1 => repeat (first | (with_reducible first | exact HI0.out | apply Ia | apply Ib | apply Ic | apply Ih | apply Ie) | exact HI0.out)); (case side2 => repeat (first | (with_reducible first | exact HB.out | apply Bb | apply Ba | apply Bc | refine Bd ?_ (IsS84.ge HI0.out)) | exact HB.out)); rintro e w83 ⟨rfl, hi, hb, hk⟩; refine ⟨_, rfl, ?_⟩; have n0_ := am (Kd.S_mono (Kd.S_keep (Ij (show IsS84 w0 _ g s0_0 x1001_1 x1002_1 from by repeat (first | (with_reducible first | exact HI0.out | apply Ia | apply Ib | apply Ic | apply Ih | apply Ie) | exact HI0.out)) (by (with_reducible repeat (first | apply Sa | apply Sb | apply Sc)); exact HO_3.out) (by decide)) hk (fun _ h => h.2)) (fun _ h => h.1)); have n1_ := am (Kd.R_mono (Kd.R_keep (Ig (show IsS84 w0 _ g s0_0 x1001_1 x1002_1 from by repeat (first | (with_reducible first | exact HI0.out | apply Ia | apply Ib | apply Ic | apply Ih | apply Ie) | exact HI0.out)) (by (with_reducible repeat (first | apply Ra | apply Rb | apply Rc)); exact HO_4.out) (by decide)) hk (fun _ h => h.2)) (fun _ h => h.1)); have n2_ := am (KeepBut.trans (by repeat (first | (with_reducible first | exact HK.out | apply Ke | apply Ka | apply Kb | apply Kc) | exact HK.out)) hk (.inl rfl)); have n3_ := am (hb); have n4_ := am (hi); clear HO_3; clear HO_4; clear HK; clear HB; clear HI0; have HO_3 := n0_; have HO_4 := n1_; have HK := n2_; have HB := n3_; have HI0 := n4_; clear n0_ n1_ n2_ n3_ n4_; (try clear hb); (try clear hb2); (try clear hk); (try clear hi); obtain ⟨Ao84, co84, eo84⟩ := Kd.S_slice HO_3.out; subst eo84))
      go_meet
      case rel => exact ⟨_, (decide ((x3_1.length : Int) > 0)), (t172), (t173), (by first | rfl | (simp; done) | (simp [*]; done)), H', ⟨by have := HK1.out; first | omega | exact Nat.le_refl _⟩, ⟨by (with_reducible repeat (first | apply Sa | apply Sb | apply Sc)); exact Kd.S_mono HO_3.out (fun _ hk => trivial)⟩, ⟨by repeat (first | (with_reducible first | exact HI0.out | apply Ia | apply Ib | apply Ic | apply Ih | apply Ie) | exact HI0.out)⟩, ⟨by repeat (first | (with_reducible first | exact HK.out | apply Ke | apply Ka | apply Kb | apply Kc) | exact HK.out)⟩, ⟨by repeat (first | (with_reducible first | exact HB.out | apply Bb | apply Ba | apply Bc | refine Bd ?_ (IsS84.ge HI0.out)) | exact HB.out)⟩⟩
     ·
      replace c82 := Bool.eq_false_iff.mpr c82
      subst c82
      have H1 : (spec_l18Draw.j4 k1 x3_1 false s0_0 t172 t173) = some (r1, r2, r3) := by rw [if_neg (show ¬ (false = true) by decide)] at H; exact H
      clear H
      have H := H1
      clear H1
      have H' := am H
      clear H
      go_wp2_with (first | ((with_reducible refine gate_callee (f := 60) rfl ?_); refine goesL_ (some 81) rfl rfl Try.func60 (by kernel_rfl) rfl #[.pointer (some ⟨g, 0, none⟩), .int .i64 14] rfl (by (try simp only [List.map_toArray, List.map_cons, List.map_nil]); first | done | rfl | (simp only [List.length_drop, List.length_take]; rfl)) ?_; (with_reducible refine (spec_l1Once.calls g s0_0 x1001_1 x1002_1 14 false t172 t173 w0 _ ?side1 ?side2 A81.out).mono ?_); (case side1 => repeat (first | (with_reducible first | exact HI0.out | apply Ia | apply Ib | apply Ic | apply Ih | apply Ie) | exact HI0.out)); (case side2 => repeat (first | (with_reducible first | exact HB.out | apply Bb | apply Ba | apply Bc | refine Bd ?_ (IsS84.ge HI0.out)) | exact HB.out)); rintro e w85 ⟨rfl, hi, hb, hk⟩; refine ⟨_, rfl, ?_⟩; have n0_ := am (Kd.S_mono (Kd.S_keep (Ij (show IsS84 w0 _ g s0_0 x1001_1 x1002_1 from by repeat (first | (with_reducible first | exact HI0.out | apply Ia | apply Ib | apply Ic | apply Ih | apply Ie) | exact HI0.out)) (by (with_reducible repeat (first | apply Sa | apply Sb | apply Sc)); exact HO_3.out) (by decide)) hk (fun _ h => h.2)) (fun _ h => h.1)); have n1_ := am (Kd.R_mono (Kd.R_keep (Ig (show IsS84 w0 _ g s0_0 x1001_1 x1002_1 from by repeat (first | (with_reducible first | exact HI0.out | apply Ia | apply Ib | apply Ic | apply Ih | apply Ie) | exact HI0.out)) (by (with_reducible repeat (first | apply Ra | apply Rb | apply Rc)); exact HO_4.out) (by decide)) hk (fun _ h => h.2)) (fun _ h => h.1)); have n2_ := am (KeepBut.trans (by repeat (first | (with_reducible first | exact HK.out | apply Ke | apply Ka | apply Kb | apply Kc) | exact HK.out)) hk (.inl rfl)); have n3_ := am (hb); have n4_ := am (hi); clear HO_3; clear HO_4; clear HK; clear HB; clear HI0; have HO_3 := n0_; have HO_4 := n1_; have HK := n2_; have HB := n3_; have HI0 := n4_; clear n0_ n1_ n2_ n3_ n4_; (try clear hb); (try clear hb2); (try clear hk); (try clear hi)))
      go_meet
      case rel => exact ⟨_, (false), (t172), (t173), (by first | rfl | (simp; done) | (simp [*]; done)), H', ⟨by have := HK1.out; first | omega | exact Nat.le_refl _⟩, ⟨by (with_reducible repeat (first | apply Sa | apply Sb | apply Sc)); exact Kd.S_mono HO_3.out (fun _ hk => trivial)⟩, ⟨by repeat (first | (with_reducible first | exact HI0.out | apply Ia | apply Ib | apply Ic | apply Ih | apply Ie) | exact HI0.out)⟩, ⟨by repeat (first | (with_reducible first | exact HK.out | apply Ke | apply Ka | apply Kb | apply Kc) | exact HK.out)⟩, ⟨by repeat (first | (with_reducible first | exact HB.out | apply Bb | apply Ba | apply Bc | refine Bd ?_ (IsS84.ge HI0.out)) | exact HB.out)⟩⟩
    case rest =>
     clear HC79
     try clear c1
     try clear p1
     try clear q1
     try clear hx1
     try clear c2
     try clear p2
     try clear c3
     try clear c4
     try clear c5
     try clear c6
     try clear c6b0
     try clear p6
     try clear c7
     try clear c8
     try clear c11
     try clear c14
     try clear p15
     try clear q15
     try clear hx15
     try clear p16
     try clear q16
     try clear hx16
     try clear c29
     try clear c29b0
     try clear c32
     try clear c33
     try clear c33b0
     try clear c40
     try clear c41
     try clear c41b0
     try clear c42
     try clear c42b0
     try clear c43
     try clear c49
     try clear c50
     try clear c50b0
     try clear c51
     try clear c51b0
     try clear c52
     try clear c52b0
     try clear c53
     try clear c60
     try clear c61
     try clear c61b0
     try clear c62
     try clear c62b0
     try clear c63
     try clear p64
     try clear c73
     try clear c74
     try clear c82
     try clear hcz75_0
     try clear hcz75_1
     try clear hcz75_2
     try clear hcz75_3
     try clear hcz75_4
     try clear hfz75_0
     try clear hfz75_1
     try clear hfz75_2
     try clear hfz75_3
     try clear hfz75_4
     try clear hx153_0
     try clear hx160_0
     try clear hx167_0
     try clear p1
     try clear p15
     try clear p153
     try clear p160
     try clear p167
     try clear p2
     try clear q1
     try clear q15
     try clear q153
     try clear q160
     try clear q167
     obtain ⟨kq, x86_78, x1001_78, x1002_78, rfl, HA, HJ78, HO_3, HI0, HK, HB⟩ := hcut
     cases kq with
     | zero => exact absurd HA.out (by simp [spec_l18Draw.j4])
     | succ kj78 =>
      have H := HA.out
      clear HA
      simp only [spec_l18Draw.j4] at H
      by_cases c86 : x86_78 = true
      ·
       subst c86
       have H1 : ((spec_l1Below.f s0_0 x1001_78 x1002_78 (x3_1.length : Int)).bind fun bt174 => (if 0 ≤ bt174.1 then (if bt174.1 < (x3_1.length : Int) then ((spec_l1Below.f s0_0 bt174.2.1 bt174.2.2 4).bind fun bt178 => (if bt178.1 = 0 then (some ((x3_1.set (bt174.1 : Int).toNat (⟨(⟨#[97]⟩ : ByteArray), (rd_T32 x3_1 bt174.1).f1, (rd_T32 x3_1 bt174.1).f2, (rd_T32 x3_1 bt174.1).f3, (rd_T32 x3_1 bt174.1).f4⟩ : S32)), bt178.2.1, bt178.2.2)) else (if bt178.1 = 1 then (some ((x3_1.set (bt174.1 : Int).toNat (⟨(rd_T32 x3_1 bt174.1).f0, (([(⟨#[98]⟩ : ByteArray), (⟨#[97]⟩ : ByteArray)] : List ByteArray)), (rd_T32 x3_1 bt174.1).f2, (rd_T32 x3_1 bt174.1).f3, (rd_T32 x3_1 bt174.1).f4⟩ : S32)), bt178.2.1, bt178.2.2)) else (if bt178.1 = 2 then (some ((x3_1.set (bt174.1 : Int).toNat (⟨(rd_T32 x3_1 bt174.1).f0, (rd_T32 x3_1 bt174.1).f1, (([(⟨#[]⟩ : ByteArray)] : List ByteArray)), (rd_T32 x3_1 bt174.1).f3, (rd_T32 x3_1 bt174.1).f4⟩ : S32)), bt178.2.1, bt178.2.2)) else (if bt178.1 = 3 then ((spec_l1Below.f s0_0 bt178.2.1 bt178.2.2 2).bind fun bt190 => (if 0 ≤ (wrap64 (4000 + bt190.1)) then (if (wrap64 (4000 + bt190.1) : Int).toNat ≤ 281474976710656 then (some ((x3_1.set (bt174.1 : Int).toNat (⟨(rd_T32 x3_1 bt174.1).f0, (rd_T32 x3_1 bt174.1).f1, (rd_T32 x3_1 bt174.1).f2, strOfNums (List.replicate (wrap64 (4000 + bt190.1) : Int).toNat 0), (rd_T32 x3_1 bt174.1).f4⟩ : S32)), bt190.2.1, bt190.2.2)) else (none)) else (none))) else (some (x3_1, bt178.2.1, bt178.2.2))))))) else (none)) else (none))) = some (r1, r2, r3) := by rw [if_pos rfl] at H; exact H
       clear H
       have H := H1
       clear H1
       replace H := Option.bind_eq_some_iff.mp H
       obtain ⟨⟨t174, t175, t176⟩, A870, H⟩ := H
       replace H : (if 0 ≤ t174 then (if t174 < (x3_1.length : Int) then ((spec_l1Below.f s0_0 t175 t176 4).bind fun bt178 => (if bt178.1 = 0 then (some ((x3_1.set (t174 : Int).toNat (⟨(⟨#[97]⟩ : ByteArray), (rd_T32 x3_1 t174).f1, (rd_T32 x3_1 t174).f2, (rd_T32 x3_1 t174).f3, (rd_T32 x3_1 t174).f4⟩ : S32)), bt178.2.1, bt178.2.2)) else (if bt178.1 = 1 then (some ((x3_1.set (t174 : Int).toNat (⟨(rd_T32 x3_1 t174).f0, (([(⟨#[98]⟩ : ByteArray), (⟨#[97]⟩ : ByteArray)] : List ByteArray)), (rd_T32 x3_1 t174).f2, (rd_T32 x3_1 t174).f3, (rd_T32 x3_1 t174).f4⟩ : S32)), bt178.2.1, bt178.2.2)) else (if bt178.1 = 2 then (some ((x3_1.set (t174 : Int).toNat (⟨(rd_T32 x3_1 t174).f0, (rd_T32 x3_1 t174).f1, (([(⟨#[]⟩ : ByteArray)] : List ByteArray)), (rd_T32 x3_1 t174).f3, (rd_T32 x3_1 t174).f4⟩ : S32)), bt178.2.1, bt178.2.2)) else (if bt178.1 = 3 then ((spec_l1Below.f s0_0 bt178.2.1 bt178.2.2 2).bind fun bt190 => (if 0 ≤ (wrap64 (4000 + bt190.1)) then (if (wrap64 (4000 + bt190.1) : Int).toNat ≤ 281474976710656 then (some ((x3_1.set (t174 : Int).toNat (⟨(rd_T32 x3_1 t174).f0, (rd_T32 x3_1 t174).f1, (rd_T32 x3_1 t174).f2, strOfNums (List.replicate (wrap64 (4000 + bt190.1) : Int).toNat 0), (rd_T32 x3_1 t174).f4⟩ : S32)), bt190.2.1, bt190.2.2)) else (none)) else (none))) else (some (x3_1, bt178.2.1, bt178.2.2))))))) else (none)) else (none)) = some (r1, r2, r3) := H
       have A87 := am A870
       clear A870
       by_cases c88 : 0 ≤ t174
       ·
        rw [if_pos c88] at H
        have c88b0 : decide (0 ≤ t174) = true := decide_eq_true c88
        clear c88
        by_cases c89 : t174 < (x3_1.length : Int)
        ·
         rw [if_pos c89] at H
         have c89b0 : decide (t174 < (x3_1.length : Int)) = true := decide_eq_true c89
         clear c89
         replace H := Option.bind_eq_some_iff.mp H
         obtain ⟨⟨t178, t179, t180⟩, A900, H⟩ := H
         replace H : (if t178 = 0 then (some ((x3_1.set (t174 : Int).toNat (⟨(⟨#[97]⟩ : ByteArray), (rd_T32 x3_1 t174).f1, (rd_T32 x3_1 t174).f2, (rd_T32 x3_1 t174).f3, (rd_T32 x3_1 t174).f4⟩ : S32)), t179, t180)) else (if t178 = 1 then (some ((x3_1.set (t174 : Int).toNat (⟨(rd_T32 x3_1 t174).f0, (([(⟨#[98]⟩ : ByteArray), (⟨#[97]⟩ : ByteArray)] : List ByteArray)), (rd_T32 x3_1 t174).f2, (rd_T32 x3_1 t174).f3, (rd_T32 x3_1 t174).f4⟩ : S32)), t179, t180)) else (if t178 = 2 then (some ((x3_1.set (t174 : Int).toNat (⟨(rd_T32 x3_1 t174).f0, (rd_T32 x3_1 t174).f1, (([(⟨#[]⟩ : ByteArray)] : List ByteArray)), (rd_T32 x3_1 t174).f3, (rd_T32 x3_1 t174).f4⟩ : S32)), t179, t180)) else (if t178 = 3 then ((spec_l1Below.f s0_0 t179 t180 2).bind fun bt190 => (if 0 ≤ (wrap64 (4000 + bt190.1)) then (if (wrap64 (4000 + bt190.1) : Int).toNat ≤ 281474976710656 then (some ((x3_1.set (t174 : Int).toNat (⟨(rd_T32 x3_1 t174).f0, (rd_T32 x3_1 t174).f1, (rd_T32 x3_1 t174).f2, strOfNums (List.replicate (wrap64 (4000 + bt190.1) : Int).toNat 0), (rd_T32 x3_1 t174).f4⟩ : S32)), bt190.2.1, bt190.2.2)) else (none)) else (none))) else (some (x3_1, t179, t180)))))) = some (r1, r2, r3) := H
         have A90 := am A900
         clear A900
         by_cases c91 : t178 = 0
         ·
          rw [if_pos c91] at H
          have c91b0 : (t178 == 0) = true := beq_iff_eq.mpr c91
          have c91b1 : (t178 != 0) = false := bne_eq_false_iff_eq.mpr c91
          clear c91
          obtain ⟨y181, hy181⟩ : ∃ y_ : List (S32), y_ = (x3_1.set (t174 : Int).toNat (⟨(⟨#[97]⟩ : ByteArray), (rd_T32 x3_1 t174).f1, (rd_T32 x3_1 t174).f2, (rd_T32 x3_1 t174).f3, (rd_T32 x3_1 t174).f4⟩ : S32)) := ⟨_, rfl⟩
          replace H : (some (y181, t179, t180)) = some (r1, r2, r3) := by first | (rw [hy181]; with_reducible exact H) | (have H2_ := (Option.bind_some _ _).symm.trans H; rw [hy181]; with_reducible exact H2_) | (have H2_ := (Option.bind_some _ _).symm.trans H; with_reducible exact H2_) | with_reducible exact H | (rw [hy181]; exact H) | exact H
          have Ny181 := am hy181
          clear hy181
          simp only [Option.some.injEq, Prod.mk.injEq] at H
          obtain ⟨rfl, rfl, rfl⟩ := H
          obtain ⟨Ao93, co93, eo93⟩ := Kd.S_slice HO_3.out
          subst eo93
          go_wp2_with (first | ((with_reducible refine gate_callee (f := 61) rfl ?_); refine goesL_ (some 91) rfl rfl Try.func61 (by kernel_rfl) rfl #[.pointer (some ⟨g, 0, none⟩), .int .i64 (x3_1.length : Int)] rfl (by (try simp only [List.map_toArray, List.map_cons, List.map_nil]); first | done | rfl | (simp only [List.length_drop, List.length_take]; rfl)) ?_; (with_reducible refine (spec_l1Below.calls g s0_0 x1001_78 x1002_78 (x3_1.length : Int) t174 t175 t176 w0 _ ?side1 ?side2 A87.out).mono ?_); (case side1 => repeat (first | (with_reducible first | exact HI0.out | apply Ia | apply Ib | apply Ic | apply Ih | apply Ie) | exact HI0.out)); (case side2 => repeat (first | (with_reducible first | exact HB.out | apply Bb | apply Ba | apply Bc | refine Bd ?_ (IsS84.ge HI0.out)) | exact HB.out)); rintro e w94 ⟨rfl, hi, hb, hk⟩; refine ⟨_, rfl, ?_⟩; have n0_ := am (Kd.S_mono (Kd.S_keep (Ij (show IsS84 w0 _ g s0_0 x1001_78 x1002_78 from by repeat (first | (with_reducible first | exact HI0.out | apply Ia | apply Ib | apply Ic | apply Ih | apply Ie) | exact HI0.out)) (by (with_reducible repeat (first | apply Sa | apply Sb | apply Sc)); exact HO_3.out) (by decide)) hk (fun _ h => h.2)) (fun _ h => h.1)); have n1_ := am (KeepBut.trans (by repeat (first | (with_reducible first | exact HK.out | apply Ke | apply Ka | apply Kb | apply Kc) | exact HK.out)) hk (.inl rfl)); have n2_ := am (hb); have n3_ := am (hi); clear HO_3; clear HK; clear HB; clear HI0; have HO_3 := n0_; have HK := n1_; have HB := n2_; have HI0 := n3_; clear n0_ n1_ n2_ n3_; (try clear hb); (try clear hb2); (try clear hk); (try clear hi); have p177 : 0 ≤ (t174 : Int) := of_decide_eq_true (by first | (with_reducible assumption) | assumption); have q177 : t174 < (x3_1.length : Int) := of_decide_eq_true (by first | (with_reducible assumption) | assumption); obtain ⟨ad177, A177_1, c177_1, A177_2, c177_2, e177, hx177_0, hx177_1, hx177_2, hx177_3, hx177_4, hl177_1, hi177_1, hl177_2, hi177_2⟩ := at_T32 (Kd.S_reads' HO_3.out).2.2 t174 p177 q177; cases e177; obtain ⟨ce177, hce177, hMe177, hcc177⟩ := Kd.S_get HO_3.out z32 t174 p177 (by first | exact q177 | exact of_decide_eq_true (by first | (with_reducible assumption) | assumption) | (have e_ := (Kd.S_reads' HO_3.out).1; omega)); obtain ⟨ve177_1, ve177_2, rfl, ge177_1, ge177_2⟩ := k32_openM hMe177; have hv177_1 := hcc177 1 _ rfl; rw [add_field _ _ 1 (by omega)] at hv177_1; replace hv177_1 := Option.some.inj (hv177_1.symm.trans hx177_1); rw [hv177_1] at ge177_1; have HL177_1 := am (show Kd.R Kd.string 9 _ _ _ _ ((rd_T32 x3_1 t174).f1) from ge177_1); clear hv177_1 ge177_1; have hv177_2 := hcc177 2 _ rfl; rw [add_field _ _ 2 (by omega)] at hv177_2; replace hv177_2 := Option.some.inj (hv177_2.symm.trans hx177_2); rw [hv177_2] at ge177_2; have HL177_2 := am (show Kd.R Kd.string 9 _ _ _ _ ((rd_T32 x3_1 t174).f2) from ge177_2); clear hv177_2 ge177_2; clear hcc177 hce177; have HR177_1 := am hi177_1; have HC177_1 := am hl177_1; clear hi177_1 hl177_1; have HR177_2 := am hi177_2; have HC177_2 := am hl177_2; clear hi177_2 hl177_2; replace p177 := eq_true p177; replace q177 := eq_true q177) | ((with_reducible refine gate_callee (f := 61) rfl ?_); refine goesL_ (some 94) rfl rfl Try.func61 (by kernel_rfl) rfl #[.pointer (some ⟨g, 0, none⟩), .int .i64 4] rfl (by (try simp only [List.map_toArray, List.map_cons, List.map_nil]); first | done | rfl | (simp only [List.length_drop, List.length_take]; rfl)) ?_; (with_reducible refine (spec_l1Below.calls g s0_0 t175 t176 4 t178 t179 t180 w0 _ ?side1 ?side2 A90.out).mono ?_); (case side1 => repeat (first | (with_reducible first | exact HI0.out | apply Ia | apply Ib | apply Ic | apply Ih | apply Ie) | exact HI0.out)); (case side2 => repeat (first | (with_reducible first | exact HB.out | apply Bb | apply Ba | apply Bc | refine Bd ?_ (IsS84.ge HI0.out)) | exact HB.out)); rintro e w95 ⟨rfl, hi, hb, hk⟩; refine ⟨_, rfl, ?_⟩; have n0_ := am (Kd.S_mono (Kd.S_keep (Ij (show IsS84 w0 _ g s0_0 t175 t176 from by repeat (first | (with_reducible first | exact HI0.out | apply Ia | apply Ib | apply Ic | apply Ih | apply Ie) | exact HI0.out)) (by (with_reducible repeat (first | apply Sa | apply Sb | apply Sc)); exact HO_3.out) (by decide)) hk (fun _ h => h.2)) (fun _ h => h.1)); have n1_ := am (Kd.R_mono (Kd.R_keep (Ig (show IsS84 w0 _ g s0_0 t175 t176 from by repeat (first | (with_reducible first | exact HI0.out | apply Ia | apply Ib | apply Ic | apply Ih | apply Ie) | exact HI0.out)) (by (with_reducible repeat (first | apply Ra | apply Rb | apply Rc)); exact HL177_1.out) (by decide)) hk (fun _ h => h.2)) (fun _ h => h.1)); have n2_ := am (Kd.R_mono (Kd.R_keep (Ig (show IsS84 w0 _ g s0_0 t175 t176 from by repeat (first | (with_reducible first | exact HI0.out | apply Ia | apply Ib | apply Ic | apply Ih | apply Ie) | exact HI0.out)) (by (with_reducible repeat (first | apply Ra | apply Rb | apply Rc)); exact HL177_2.out) (by decide)) hk (fun _ h => h.2)) (fun _ h => h.1)); have n3_ := am (KeepBut.trans (by repeat (first | (with_reducible first | exact HK.out | apply Ke | apply Ka | apply Kb | apply Kc) | exact HK.out)) hk (.inl rfl)); have n4_ := am (hb); have n5_ := am (hi); clear HO_3; clear HL177_1; clear HL177_2; clear HK; clear HB; clear HI0; have HO_3 := n0_; have HL177_1 := n1_; have HL177_2 := n2_; have HK := n3_; have HB := n4_; have HI0 := n5_; clear n0_ n1_ n2_ n3_ n4_ n5_; (try clear hb); (try clear hb2); (try clear hk); (try clear hi); have p92 : 0 ≤ (t174 : Int) := of_decide_eq_true (by first | (with_reducible assumption) | assumption); have q92 : (t174 : Int) < ((x3_1.length : Int) : Int) := of_decide_eq_true (by first | (with_reducible assumption) | assumption); obtain ⟨go92, co92, eo92, gb92, gl92, cl92, HG92⟩ := Kd.S_form HO_3.out (by omega); (first | cases eo92 | (injection eo92 with ea_ en_ ec_; (first | subst ea_ | (injection ea_ with ea_; subst ea_)); subst ec_; clear en_)); have GB92 := am gb92; have GG92 := am HG92; clear gb92 gl92 HG92; (first | simp only [add_plain] at hx177_0 | skip); (first | simp only [add_plain] at hx177_1 | skip); (first | simp only [add_plain] at hx177_2 | skip); (first | simp only [add_plain] at hx177_3 | skip); (first | simp only [add_plain] at hx177_4 | skip); obtain ⟨_, ce92, hcl92, hM92, hcc92, hfr92, _, _⟩ := Kd.S_elem HO_3.out z32 (t174 : Int) p92 q92; obtain ⟨ve92_1, ve92_2, rfl, ge92_1, ge92_2⟩ := k32_openM hM92; have hx92_0 : w95.cell? ⟨go92, (t174 : Int).toNat * 5, none⟩ = some (.string ((rd_T32 x3_1 t174).f0)) := hcc92 0 _ rfl; have hx92_1 : w95.cell? ⟨go92, (t174 : Int).toNat * 5 + 1, none⟩ = some (ve92_1) := hcc92 1 _ rfl; have hx92_2 : w95.cell? ⟨go92, (t174 : Int).toNat * 5 + 2, none⟩ = some (ve92_2) := hcc92 2 _ rfl; have hx92_3 : w95.cell? ⟨go92, (t174 : Int).toNat * 5 + 3, none⟩ = some (.string ((rd_T32 x3_1 t174).f3)) := hcc92 3 _ rfl; have hx92_4 : w95.cell? ⟨go92, (t174 : Int).toNat * 5 + 4, none⟩ = some (.bool ((rd_T32 x3_1 t174).f4)) := hcc92 4 _ rfl; have hf92_0 : w95.frozen? ⟨go92, (t174 : Int).toNat * 5, none⟩ = false := hfr92 0; have hf92_1 : w95.frozen? ⟨go92, (t174 : Int).toNat * 5 + 1, none⟩ = false := hfr92 1; have hf92_2 : w95.frozen? ⟨go92, (t174 : Int).toNat * 5 + 2, none⟩ = false := hfr92 2; have hf92_3 : w95.frozen? ⟨go92, (t174 : Int).toNat * 5 + 3, none⟩ = false := hfr92 3; have hf92_4 : w95.frozen? ⟨go92, (t174 : Int).toNat * 5 + 4, none⟩ = false := hfr92 4; clear hcl92 hcc92 hfr92 hM92; replace p92 := eq_true p92; replace q92 := eq_true q92; have HX96 := am (show Kd.S k32 32 w95 w.heap.size (fun k_ => ((fun _ => True)) k_ ∧ ¬ ((fun _ => False)) k_) (.slice (some ⟨go92, 0, none⟩) x3_1.length co93) x3_1 from (by (with_reducible repeat (first | apply Sa | apply Sb | apply Sc)); exact Kd.S_mono HO_3.out (fun k_ hk => ⟨trivial, fun e_ => e_⟩))); obtain ⟨oki96, ce96, hcl96, hM96, hcc96, hfr96, hoki96, hH96⟩ := Kd.S_elem HX96.out z32 (t174 : Int) (of_decide_eq_true (by first | (with_reducible assumption) | assumption)) (by have h_ : (t174 : Int) < ((x3_1.length : Int) : Int) := of_decide_eq_true (by first | (with_reducible assumption) | assumption); first | exact h_ | (have e_ := (Kd.S_reads' HO_3.out).1; omega) | simpa using h_); obtain ⟨ve96_1, ve96_2, rfl, ge96_1, ge96_2⟩ := k32_openM hM96; have HP96 := Kd.S_seg hH96 (of_decide_eq_true (by first | (with_reducible assumption) | assumption)) (by have h_ : (t174 : Int) < ((x3_1.length : Int) : Int) := of_decide_eq_true (by first | (with_reducible assumption) | assumption); first | exact h_ | (have e_ := (Kd.S_reads' HO_3.out).1; omega) | simpa using h_) (seg := [.string (⟨#[97]⟩ : ByteArray)]) (j := 0) (show 1 ≤ 5 from by decide) (x' := (⟨(⟨#[97]⟩ : ByteArray), (rd_T32 x3_1 t174).f1, (rd_T32 x3_1 t174).f2, (rd_T32 x3_1 t174).f3, (rd_T32 x3_1 t174).f4⟩ : S32)) (k32_mkM _ _ _ (⟨(⟨#[97]⟩ : ByteArray), (rd_T32 x3_1 t174).f1, (rd_T32 x3_1 t174).f2, (rd_T32 x3_1 t174).f3, (rd_T32 x3_1 t174).f4⟩ : S32) (Kd.R_mono ge96_1 (fun _ h_ => Or.inl h_)) (Kd.R_mono ge96_2 (fun _ h_ => Or.inl h_))) (fun _ hk => hk) (fun k_ hk_ => hk_.elim); have hx96_0 := hcc96 0 _ rfl; (try simp only [show (k32).sz = 5 from rfl, Nat.mul_one, Nat.add_zero] at hx96_0); have hf96_0 := hfr96 0; (try simp only [show (k32).sz = 5 from rfl, Nat.mul_one, Nat.add_zero] at hf96_0); clear hcl96 hcc96 hfr96 hM96 hoki96 hH96) | ((with_reducible refine gate_store (t := 9) (p := 99) rfl ?_); refine store_event (t := 9) (p := 99) (v := ?vo_w97) (w1 := (w95.setCell ⟨go92, (t174 : Int).toNat * 5, none⟩ (.string (⟨#[97]⟩ : ByteArray)))) ?hg ?ho ?hn ?hr ?_; (case ho => rfl); (case hg => rfl); (case hn => rfl); (case hr => first | (go_simp; done) | (go_simp; rfl)); intro w97 hw; have hg : w95.grownBy w97 (some go92) := (by rw [hw]; exact HP96.2); have hp_ : Kd.S k32 32 w97 w.heap.size (fun _ => True) (.slice (some ⟨go92, 0, none⟩) x3_1.length co93) y181 := (by rw [hw, Ny181.out]; exact HP96.1); clear HP96; have n0_ := am (hp_); have n1_ := am (IsS84.grown (by repeat (first | (with_reducible first | exact HI0.out | apply Ia | apply Ib | apply Ic | apply Ih | apply Ie) | exact HI0.out)) hg (IsS84.own_neS HI0.out HO_3.out (by decide))); have n2_ := am (Kd.R_after (v := (.slice (some ⟨go92, 0, none⟩) x3_1.length co93)) (v1 := (.slice (some ⟨go92, 0, none⟩) x3_1.length co93)) (ok := (fun _ => True)) (by (with_reducible repeat (first | apply Ra | apply Rb | apply Rc)); exact HL177_1.out) hg (.inl rfl)); have n3_ := am (Kd.R_after (v := (.slice (some ⟨go92, 0, none⟩) x3_1.length co93)) (v1 := (.slice (some ⟨go92, 0, none⟩) x3_1.length co93)) (ok := (fun _ => True)) (by (with_reducible repeat (first | apply Ra | apply Rb | apply Rc)); exact HL177_2.out) hg (.inl rfl)); have n4_ := am ((by rw [hw]; exact Bd (HB.out) (Nat.le_trans HL.out GB92.out) : Below w0.heap.size w0 w97)); have n5_ := am (KeepBut.trans (by repeat (first | (with_reducible first | exact HK.out | apply Ke | apply Ka | apply Kb | apply Kc) | exact HK.out)) (KeepBut.of_grown hg g) (Kd.S_base2 HO_3.out)); clear HO_3; clear HI0; clear HL177_1; clear HL177_2; clear HB; clear HK; have HO_3 := n0_; have HI0 := n1_; have HL177_1 := n2_; have HL177_2 := n3_; have HB := n4_; have HK := n5_; clear n0_ n1_ n2_ n3_ n4_ n5_; clear hg hw hp_))
          go_ret
          exact ⟨_, by first | rfl | (simp [errW_none, errW_some] <;> rfl) | (simp [*, errW_none, errW_some] <;> rfl), by (with_reducible repeat (first | apply Sa | apply Sb | apply Sc)); exact HO_3.out, by repeat (first | (with_reducible first | exact HI0.out | apply Ia | apply Ib | apply Ic | apply Ih | apply Ie) | exact HI0.out), by repeat (first | (with_reducible first | exact HB.out | apply Bb | apply Ba | apply Bc | refine Bd ?_ (IsS84.ge HI0.out)) | exact HB.out), by repeat (first | (with_reducible first | exact HK.out | apply Ke | apply Ka | apply Kb | apply Kc) | exact HK.out)⟩
         ·
          rw [if_neg c91] at H
          have c91b0 : (t178 == 0) = false := beq_eq_false_iff_ne.mpr c91
          have c91b1 : (t178 != 0) = true := bne_iff_ne.mpr c91
          by_cases c98 : t178 = 1
          ·
           rw [if_pos c98] at H
           have c98b0 : (t178 == 1) = true := beq_iff_eq.mpr c98
           have c98b1 : (t178 != 1) = false := bne_eq_false_iff_eq.mpr c98
           clear c98
           obtain ⟨y182, hy182⟩ : ∃ y_ : List ByteArray, y_ = (([(⟨#[98]⟩ : ByteArray), (⟨#[97]⟩ : ByteArray)] : List ByteArray)) := ⟨_, rfl⟩
           replace H : (some ((x3_1.set (t174 : Int).toNat (⟨(rd_T32 x3_1 t174).f0, y182, (rd_T32 x3_1 t174).f2, (rd_T32 x3_1 t174).f3, (rd_T32 x3_1 t174).f4⟩ : S32)), t179, t180)) = some (r1, r2, r3) := by first | (rw [hy182]; with_reducible exact H) | (have H2_ := (Option.bind_some _ _).symm.trans H; rw [hy182]; with_reducible exact H2_) | (have H2_ := (Option.bind_some _ _).symm.trans H; with_reducible exact H2_) | with_reducible exact H | (rw [hy182]; exact H) | exact H
           have Ny182 := am hy182
           clear hy182
           obtain ⟨y185, hy185⟩ : ∃ y_ : List (S32), y_ = (x3_1.set (t174 : Int).toNat (⟨(rd_T32 x3_1 t174).f0, y182, (rd_T32 x3_1 t174).f2, (rd_T32 x3_1 t174).f3, (rd_T32 x3_1 t174).f4⟩ : S32)) := ⟨_, rfl⟩
           replace H : (some (y185, t179, t180)) = some (r1, r2, r3) := by first | (rw [hy185]; with_reducible exact H) | (have H2_ := (Option.bind_some _ _).symm.trans H; rw [hy185]; with_reducible exact H2_) | (have H2_ := (Option.bind_some _ _).symm.trans H; with_reducible exact H2_) | with_reducible exact H | (rw [hy185]; exact H) | exact H
           have Ny185 := am hy185
           clear hy185
           simp only [Option.some.injEq, Prod.mk.injEq] at H
           obtain ⟨rfl, rfl, rfl⟩ := H
           obtain ⟨Ao100, co100, eo100⟩ := Kd.S_slice HO_3.out
           subst eo100
           go_wp2_with (first | ((with_reducible refine gate_callee (f := 61) rfl ?_); refine goesL_ (some 91) rfl rfl Try.func61 (by kernel_rfl) rfl #[.pointer (some ⟨g, 0, none⟩), .int .i64 (x3_1.length : Int)] rfl (by (try simp only [List.map_toArray, List.map_cons, List.map_nil]); first | done | rfl | (simp only [List.length_drop, List.length_take]; rfl)) ?_; (with_reducible refine (spec_l1Below.calls g s0_0 x1001_78 x1002_78 (x3_1.length : Int) t174 t175 t176 w0 _ ?side1 ?side2 A87.out).mono ?_); (case side1 => repeat (first | (with_reducible first | exact HI0.out | apply Ia | apply Ib | apply Ic | apply Ih | apply Ie) | exact HI0.out)); (case side2 => repeat (first | (with_reducible first | exact HB.out | apply Bb | apply Ba | apply Bc | refine Bd ?_ (IsS84.ge HI0.out)) | exact HB.out)); rintro e w101 ⟨rfl, hi, hb, hk⟩; refine ⟨_, rfl, ?_⟩; have n0_ := am (Kd.S_mono (Kd.S_keep (Ij (show IsS84 w0 _ g s0_0 x1001_78 x1002_78 from by repeat (first | (with_reducible first | exact HI0.out | apply Ia | apply Ib | apply Ic | apply Ih | apply Ie) | exact HI0.out)) (by (with_reducible repeat (first | apply Sa | apply Sb | apply Sc)); exact HO_3.out) (by decide)) hk (fun _ h => h.2)) (fun _ h => h.1)); have n1_ := am (KeepBut.trans (by repeat (first | (with_reducible first | exact HK.out | apply Ke | apply Ka | apply Kb | apply Kc) | exact HK.out)) hk (.inl rfl)); have n2_ := am (hb); have n3_ := am (hi); clear HO_3; clear HK; clear HB; clear HI0; have HO_3 := n0_; have HK := n1_; have HB := n2_; have HI0 := n3_; clear n0_ n1_ n2_ n3_; (try clear hb); (try clear hb2); (try clear hk); (try clear hi); have p177 : 0 ≤ (t174 : Int) := of_decide_eq_true (by first | (with_reducible assumption) | assumption); have q177 : t174 < (x3_1.length : Int) := of_decide_eq_true (by first | (with_reducible assumption) | assumption); obtain ⟨ad177, A177_1, c177_1, A177_2, c177_2, e177, hx177_0, hx177_1, hx177_2, hx177_3, hx177_4, hl177_1, hi177_1, hl177_2, hi177_2⟩ := at_T32 (Kd.S_reads' HO_3.out).2.2 t174 p177 q177; cases e177; obtain ⟨ce177, hce177, hMe177, hcc177⟩ := Kd.S_get HO_3.out z32 t174 p177 (by first | exact q177 | exact of_decide_eq_true (by first | (with_reducible assumption) | assumption) | (have e_ := (Kd.S_reads' HO_3.out).1; omega)); obtain ⟨ve177_1, ve177_2, rfl, ge177_1, ge177_2⟩ := k32_openM hMe177; have hv177_1 := hcc177 1 _ rfl; rw [add_field _ _ 1 (by omega)] at hv177_1; replace hv177_1 := Option.some.inj (hv177_1.symm.trans hx177_1); rw [hv177_1] at ge177_1; have HL177_1 := am (show Kd.R Kd.string 9 _ _ _ _ ((rd_T32 x3_1 t174).f1) from ge177_1); clear hv177_1 ge177_1; have hv177_2 := hcc177 2 _ rfl; rw [add_field _ _ 2 (by omega)] at hv177_2; replace hv177_2 := Option.some.inj (hv177_2.symm.trans hx177_2); rw [hv177_2] at ge177_2; have HL177_2 := am (show Kd.R Kd.string 9 _ _ _ _ ((rd_T32 x3_1 t174).f2) from ge177_2); clear hv177_2 ge177_2; clear hcc177 hce177; have HR177_1 := am hi177_1; have HC177_1 := am hl177_1; clear hi177_1 hl177_1; have HR177_2 := am hi177_2; have HC177_2 := am hl177_2; clear hi177_2 hl177_2; replace p177 := eq_true p177; replace q177 := eq_true q177) | ((with_reducible refine gate_callee (f := 61) rfl ?_); refine goesL_ (some 94) rfl rfl Try.func61 (by kernel_rfl) rfl #[.pointer (some ⟨g, 0, none⟩), .int .i64 4] rfl (by (try simp only [List.map_toArray, List.map_cons, List.map_nil]); first | done | rfl | (simp only [List.length_drop, List.length_take]; rfl)) ?_; (with_reducible refine (spec_l1Below.calls g s0_0 t175 t176 4 t178 t179 t180 w0 _ ?side1 ?side2 A90.out).mono ?_); (case side1 => repeat (first | (with_reducible first | exact HI0.out | apply Ia | apply Ib | apply Ic | apply Ih | apply Ie) | exact HI0.out)); (case side2 => repeat (first | (with_reducible first | exact HB.out | apply Bb | apply Ba | apply Bc | refine Bd ?_ (IsS84.ge HI0.out)) | exact HB.out)); rintro e w102 ⟨rfl, hi, hb, hk⟩; refine ⟨_, rfl, ?_⟩; have n0_ := am (Kd.S_mono (Kd.S_keep (Ij (show IsS84 w0 _ g s0_0 t175 t176 from by repeat (first | (with_reducible first | exact HI0.out | apply Ia | apply Ib | apply Ic | apply Ih | apply Ie) | exact HI0.out)) (by (with_reducible repeat (first | apply Sa | apply Sb | apply Sc)); exact HO_3.out) (by decide)) hk (fun _ h => h.2)) (fun _ h => h.1)); have n1_ := am (Kd.R_mono (Kd.R_keep (Ig (show IsS84 w0 _ g s0_0 t175 t176 from by repeat (first | (with_reducible first | exact HI0.out | apply Ia | apply Ib | apply Ic | apply Ih | apply Ie) | exact HI0.out)) (by (with_reducible repeat (first | apply Ra | apply Rb | apply Rc)); exact HL177_1.out) (by decide)) hk (fun _ h => h.2)) (fun _ h => h.1)); have n2_ := am (Kd.R_mono (Kd.R_keep (Ig (show IsS84 w0 _ g s0_0 t175 t176 from by repeat (first | (with_reducible first | exact HI0.out | apply Ia | apply Ib | apply Ic | apply Ih | apply Ie) | exact HI0.out)) (by (with_reducible repeat (first | apply Ra | apply Rb | apply Rc)); exact HL177_2.out) (by decide)) hk (fun _ h => h.2)) (fun _ h => h.1)); have n3_ := am (KeepBut.trans (by repeat (first | (with_reducible first | exact HK.out | apply Ke | apply Ka | apply Kb | apply Kc) | exact HK.out)) hk (.inl rfl)); have n4_ := am (hb); have n5_ := am (hi); clear HO_3; clear HL177_1; clear HL177_2; clear HK; clear HB; clear HI0; have HO_3 := n0_; have HL177_1 := n1_; have HL177_2 := n2_; have HK := n3_; have HB := n4_; have HI0 := n5_; clear n0_ n1_ n2_ n3_ n4_ n5_; (try clear hb); (try clear hb2); (try clear hk); (try clear hi)) | ((with_reducible refine gate_dst (N := 103) rfl ?_); (try (refine gate_guard (by rfl) ?_; dsimp only)); refine Kd.R_lit Kd.string _ 9 ?hg (N := 103) ?hd (xs := ([(⟨#[98]⟩ : ByteArray), (⟨#[97]⟩ : ByteArray)] : List ByteArray)) (inner := [.string (⟨#[98]⟩ : ByteArray), .string (⟨#[97]⟩ : ByteArray)]) (ok := fun _ => True) (okp := fun _ => True) ?hr ?hp (fun _ hk => hk) trivial (Below.refl _ _) (Nat.le_refl _) (by simp) ?_; (case hd => rfl); (case hg => rfl); (case hr => first | (go_simp; done) | (go_simp; rfl)); (case hp => exact (Reps.one (show Kd.M Kd.string _ _ _ (⟨#[98]⟩ : ByteArray) [.string (⟨#[98]⟩ : ByteArray)] from rfl) (Reps.one (show Kd.M Kd.string _ _ _ (⟨#[97]⟩ : ByteArray) [.string (⟨#[97]⟩ : ByteArray)] from rfl) (Reps.none _ _)))); intro v183 w103 ho104 hb hg_ hnew_; clear hg_ hnew_; (first | rw [← Ny182.out] at ho104 | (simp only [Int.reduceToNat] at ho104; rw [← Ny182.out] at ho104)); have n0_ := am (Kd.S_elder' (by (with_reducible repeat (first | apply Sa | apply Sb | apply Sc)); exact HO_3.out) (Kd.R_base ho104) hb); have n1_ := am (Kd.R_elder' (by (with_reducible repeat (first | apply Ra | apply Rb | apply Rc)); exact HL177_1.out) (Kd.R_base ho104) hb); have n2_ := am (Kd.R_elder' (by (with_reducible repeat (first | apply Ra | apply Rb | apply Rc)); exact HL177_2.out) (Kd.R_base ho104) hb); have n3_ := am (Kd.R_lower (Kd.R_new' (Kd.R_new' ho104 (Kd.R_lt (by (with_reducible repeat (first | apply Ra | apply Rb | apply Rc)); exact HL177_1.out))) (Kd.R_lt (by (with_reducible repeat (first | apply Ra | apply Rb | apply Rc)); exact HL177_2.out))) (keep_size (w := w) (g := g) (row := none) (by repeat (first | (with_reducible first | exact HK.out | apply Ke | apply Ka | apply Kb | apply Kc) | exact HK.out)))); have n4_ := am (IsS84.below (by repeat (first | (with_reducible first | exact HI0.out | apply Ia | apply Ib | apply Ic | apply Ih | apply Ie) | exact HI0.out)) hb); have n5_ := am (KeepBut.trans (by repeat (first | (with_reducible first | exact HK.out | apply Ke | apply Ka | apply Kb | apply Kc) | exact HK.out)) (KeepBut.of_below hb g none) (.inl rfl)); have n6_ := am (below_step (by repeat (first | (with_reducible first | exact HB.out | apply Bb | apply Ba | apply Bc | refine Bd ?_ (IsS84.ge HI0.out)) | exact HB.out)) hb); clear HO_3; clear HL177_1; clear HL177_2; clear HI0; clear HK; clear HB; have HO_3 := n0_; have HL177_1 := n1_; have HL177_2 := n2_; have HO184 := n3_; have HI0 := n4_; have HK := n5_; have HB := n6_; clear n0_ n1_ n2_ n3_ n4_ n5_ n6_; clear hb ho104; have p99 : 0 ≤ (t174 : Int) := of_decide_eq_true (by first | (with_reducible assumption) | assumption); have q99 : (t174 : Int) < ((x3_1.length : Int) : Int) := of_decide_eq_true (by first | (with_reducible assumption) | assumption); obtain ⟨go99, co99, eo99, gb99, gl99, cl99, HG99⟩ := Kd.S_form HO_3.out (by omega); (first | cases eo99 | (injection eo99 with ea_ en_ ec_; (first | subst ea_ | (injection ea_ with ea_; subst ea_)); subst ec_; clear en_)); have GB99 := am gb99; have GG99 := am HG99; clear gb99 gl99 HG99; (first | simp only [add_plain] at hx177_0 | skip); (first | simp only [add_plain] at hx177_1 | skip); (first | simp only [add_plain] at hx177_2 | skip); (first | simp only [add_plain] at hx177_3 | skip); (first | simp only [add_plain] at hx177_4 | skip); obtain ⟨_, ce99, hcl99, hM99, hcc99, hfr99, _, _⟩ := Kd.S_elem HO_3.out z32 (t174 : Int) p99 q99; obtain ⟨ve99_1, ve99_2, rfl, ge99_1, ge99_2⟩ := k32_openM hM99; have hx99_0 : w103.cell? ⟨go99, (t174 : Int).toNat * 5, none⟩ = some (.string ((rd_T32 x3_1 t174).f0)) := hcc99 0 _ rfl; have hx99_1 : w103.cell? ⟨go99, (t174 : Int).toNat * 5 + 1, none⟩ = some (ve99_1) := hcc99 1 _ rfl; have hx99_2 : w103.cell? ⟨go99, (t174 : Int).toNat * 5 + 2, none⟩ = some (ve99_2) := hcc99 2 _ rfl; have hx99_3 : w103.cell? ⟨go99, (t174 : Int).toNat * 5 + 3, none⟩ = some (.string ((rd_T32 x3_1 t174).f3)) := hcc99 3 _ rfl; have hx99_4 : w103.cell? ⟨go99, (t174 : Int).toNat * 5 + 4, none⟩ = some (.bool ((rd_T32 x3_1 t174).f4)) := hcc99 4 _ rfl; have hf99_0 : w103.frozen? ⟨go99, (t174 : Int).toNat * 5, none⟩ = false := hfr99 0; have hf99_1 : w103.frozen? ⟨go99, (t174 : Int).toNat * 5 + 1, none⟩ = false := hfr99 1; have hf99_2 : w103.frozen? ⟨go99, (t174 : Int).toNat * 5 + 2, none⟩ = false := hfr99 2; have hf99_3 : w103.frozen? ⟨go99, (t174 : Int).toNat * 5 + 3, none⟩ = false := hfr99 3; have hf99_4 : w103.frozen? ⟨go99, (t174 : Int).toNat * 5 + 4, none⟩ = false := hfr99 4; clear hcl99 hcc99 hfr99 hM99; replace p99 := eq_true p99; replace q99 := eq_true q99; have n_ := am (Kd.S_mono (ok' := (fun k_ => some k_ ≠ (v183 : Value).ownBlock)) HO_3.out (fun k_ hk => hk.2)); clear HO_3; have HO_3 := n_; clear n_; have HX105 := am (show Kd.S k32 32 w103 w.heap.size (fun k_ => ((fun _ => True)) k_ ∧ ¬ ((fun k_ => some k_ = (v183 : Value).ownBlock)) k_) (.slice (some ⟨go99, 0, none⟩) x3_1.length co100) x3_1 from (by (with_reducible repeat (first | apply Sa | apply Sb | apply Sc)); exact Kd.S_mono HO_3.out (fun k_ hk => ⟨trivial, fun e_ => hk e_⟩))); obtain ⟨oki105, ce105, hcl105, hM105, hcc105, hfr105, hoki105, hH105⟩ := Kd.S_elem HX105.out z32 (t174 : Int) (of_decide_eq_true (by first | (with_reducible assumption) | assumption)) (by have h_ : (t174 : Int) < ((x3_1.length : Int) : Int) := of_decide_eq_true (by first | (with_reducible assumption) | assumption); first | exact h_ | (have e_ := (Kd.S_reads' HO_3.out).1; omega) | simpa using h_); obtain ⟨ve105_1, ve105_2, rfl, ge105_1, ge105_2⟩ := k32_openM hM105; have HP105 := Kd.S_seg hH105 (of_decide_eq_true (by first | (with_reducible assumption) | assumption)) (by have h_ : (t174 : Int) < ((x3_1.length : Int) : Int) := of_decide_eq_true (by first | (with_reducible assumption) | assumption); first | exact h_ | (have e_ := (Kd.S_reads' HO_3.out).1; omega) | simpa using h_) (seg := [v183]) (j := 1) (show 2 ≤ 5 from by decide) (x' := (⟨(rd_T32 x3_1 t174).f0, y182, (rd_T32 x3_1 t174).f2, (rd_T32 x3_1 t174).f3, (rd_T32 x3_1 t174).f4⟩ : S32)) (k32_mkM _ _ _ (⟨(rd_T32 x3_1 t174).f0, y182, (rd_T32 x3_1 t174).f2, (rd_T32 x3_1 t174).f3, (rd_T32 x3_1 t174).f4⟩ : S32) (Kd.R_mono (Kd.R_tight rfl (Kd.R_mono (ok' := fun k_ => ((fun _ => True)) k_ ∧ k_ ≠ go99) (Kd.R_apart' (HO184.out) (Kd.S_typed HO_3.out) (by decide)) (fun k_ hk => ⟨trivial, fun e_ => (hk.2) (by rw [e_]; rfl)⟩))) (fun _ h_ => Or.inr (h_))) (Kd.R_mono ge105_2 (fun _ h_ => Or.inl h_))) (fun _ hk => hk) (fun k_ hk_ => ((Kd.R_mono (ok' := fun k_ => ((fun _ => True)) k_ ∧ k_ ≠ go99) (Kd.R_apart' (HO184.out) (Kd.S_typed HO_3.out) (by decide)) (fun k_ hk => ⟨trivial, fun e_ => (hk.2) (by rw [e_]; rfl)⟩))).1 k_ hk_.symm); have hx105_1 := hcc105 1 _ rfl; (try simp only [show (k32).sz = 5 from rfl, Nat.mul_one, Nat.add_zero] at hx105_1); have hf105_1 := hfr105 1; (try simp only [show (k32).sz = 5 from rfl, Nat.mul_one, Nat.add_zero] at hf105_1); clear hcl105 hcc105 hfr105 hM105 hoki105 hH105) | ((with_reducible refine gate_store (t := 25) (p := 105) rfl ?_); refine store_event (t := 25) (p := 105) (v := ?vo_w106) (w1 := (w103.setCell ⟨go99, (t174 : Int).toNat * 5 + 1, none⟩ (v183))) ?hg ?ho ?hn ?hr ?_; (case ho => rfl); (case hg => rfl); (case hn => rfl); (case hr => first | (go_simp; done) | (go_simp; rfl) | (obtain ⟨_, _, rfl⟩ := Kd.R_slice HO184.out; first | (go_simp; done) | (go_simp; rfl))); intro w106 hw; have hg : w103.grownBy w106 (some go99) := (by rw [hw]; exact HP105.2); have hp_ : Kd.S k32 32 w106 w.heap.size (fun _ => True) (.slice (some ⟨go99, 0, none⟩) x3_1.length co100) y185 := (by rw [hw, Ny185.out]; exact HP105.1); clear HP105; have n0_ := am (hp_); have n1_ := am (IsS84.grown (by repeat (first | (with_reducible first | exact HI0.out | apply Ia | apply Ib | apply Ic | apply Ih | apply Ie) | exact HI0.out)) hg (IsS84.own_neS HI0.out HO_3.out (by decide))); have n2_ := am (Kd.R_after (v := (.slice (some ⟨go99, 0, none⟩) x3_1.length co100)) (v1 := (.slice (some ⟨go99, 0, none⟩) x3_1.length co100)) (ok := (fun k_ => some k_ ≠ (v183 : Value).ownBlock)) (by (with_reducible repeat (first | apply Ra | apply Rb | apply Rc)); exact Kd.R_mono HL177_1.out (fun _ hk => ⟨hk.2, hk.1.2⟩)) hg (.inl rfl)); have n3_ := am (Kd.R_after (v := (.slice (some ⟨go99, 0, none⟩) x3_1.length co100)) (v1 := (.slice (some ⟨go99, 0, none⟩) x3_1.length co100)) (ok := (fun k_ => some k_ ≠ (v183 : Value).ownBlock)) (by (with_reducible repeat (first | apply Ra | apply Rb | apply Rc)); exact Kd.R_mono HL177_2.out (fun _ hk => ⟨hk.2, hk.1.2⟩)) hg (.inl rfl)); have n4_ := am ((by rw [hw]; exact Bd (HB.out) (Nat.le_trans HL.out GB99.out) : Below w0.heap.size w0 w106)); have n5_ := am (KeepBut.trans (by repeat (first | (with_reducible first | exact HK.out | apply Ke | apply Ka | apply Kb | apply Kc) | exact HK.out)) (KeepBut.of_grown hg g) (Kd.S_base2 HO_3.out)); clear HO_3; clear HI0; clear HL177_1; clear HL177_2; clear HB; clear HK; clear HO184; have HO_3 := n0_; have HI0 := n1_; have HL177_1 := n2_; have HL177_2 := n3_; have HB := n4_; have HK := n5_; clear n0_ n1_ n2_ n3_ n4_ n5_; clear hg hw hp_))
           go_ret
           exact ⟨_, by first | rfl | (simp [errW_none, errW_some] <;> rfl) | (simp [*, errW_none, errW_some] <;> rfl), by (with_reducible repeat (first | apply Sa | apply Sb | apply Sc)); exact HO_3.out, by repeat (first | (with_reducible first | exact HI0.out | apply Ia | apply Ib | apply Ic | apply Ih | apply Ie) | exact HI0.out), by repeat (first | (with_reducible first | exact HB.out | apply Bb | apply Ba | apply Bc | refine Bd ?_ (IsS84.ge HI0.out)) | exact HB.out), by repeat (first | (with_reducible first | exact HK.out | apply Ke | apply Ka | apply Kb | apply Kc) | exact HK.out)⟩
          ·
           rw [if_neg c98] at H
           have c98b0 : (t178 == 1) = false := beq_eq_false_iff_ne.mpr c98
           have c98b1 : (t178 != 1) = true := bne_iff_ne.mpr c98
           by_cases c107 : t178 = 2
           ·
            rw [if_pos c107] at H
            have c107b0 : (t178 == 2) = true := beq_iff_eq.mpr c107
            have c107b1 : (t178 != 2) = false := bne_eq_false_iff_eq.mpr c107
            clear c107
            obtain ⟨y186, hy186⟩ : ∃ y_ : List ByteArray, y_ = (([(⟨#[]⟩ : ByteArray)] : List ByteArray)) := ⟨_, rfl⟩
            replace H : (some ((x3_1.set (t174 : Int).toNat (⟨(rd_T32 x3_1 t174).f0, (rd_T32 x3_1 t174).f1, y186, (rd_T32 x3_1 t174).f3, (rd_T32 x3_1 t174).f4⟩ : S32)), t179, t180)) = some (r1, r2, r3) := by first | (rw [hy186]; with_reducible exact H) | (have H2_ := (Option.bind_some _ _).symm.trans H; rw [hy186]; with_reducible exact H2_) | (have H2_ := (Option.bind_some _ _).symm.trans H; with_reducible exact H2_) | with_reducible exact H | (rw [hy186]; exact H) | exact H
            have Ny186 := am hy186
            clear hy186
            obtain ⟨y189, hy189⟩ : ∃ y_ : List (S32), y_ = (x3_1.set (t174 : Int).toNat (⟨(rd_T32 x3_1 t174).f0, (rd_T32 x3_1 t174).f1, y186, (rd_T32 x3_1 t174).f3, (rd_T32 x3_1 t174).f4⟩ : S32)) := ⟨_, rfl⟩
            replace H : (some (y189, t179, t180)) = some (r1, r2, r3) := by first | (rw [hy189]; with_reducible exact H) | (have H2_ := (Option.bind_some _ _).symm.trans H; rw [hy189]; with_reducible exact H2_) | (have H2_ := (Option.bind_some _ _).symm.trans H; with_reducible exact H2_) | with_reducible exact H | (rw [hy189]; exact H) | exact H
            have Ny189 := am hy189
            clear hy189
            simp only [Option.some.injEq, Prod.mk.injEq] at H
            obtain ⟨rfl, rfl, rfl⟩ := H
            obtain ⟨Ao109, co109, eo109⟩ := Kd.S_slice HO_3.out
            subst eo109
            go_wp2_with (first | ((with_reducible refine gate_callee (f := 61) rfl ?_); refine goesL_ (some 91) rfl rfl Try.func61 (by kernel_rfl) rfl #[.pointer (some ⟨g, 0, none⟩), .int .i64 (x3_1.length : Int)] rfl (by (try simp only [List.map_toArray, List.map_cons, List.map_nil]); first | done | rfl | (simp only [List.length_drop, List.length_take]; rfl)) ?_; (with_reducible refine (spec_l1Below.calls g s0_0 x1001_78 x1002_78 (x3_1.length : Int) t174 t175 t176 w0 _ ?side1 ?side2 A87.out).mono ?_); (case side1 => repeat (first | (with_reducible first | exact HI0.out | apply Ia | apply Ib | apply Ic | apply Ih | apply Ie) | exact HI0.out)); (case side2 => repeat (first | (with_reducible first | exact HB.out | apply Bb | apply Ba | apply Bc | refine Bd ?_ (IsS84.ge HI0.out)) | exact HB.out)); rintro e w110 ⟨rfl, hi, hb, hk⟩; refine ⟨_, rfl, ?_⟩; have n0_ := am (Kd.S_mono (Kd.S_keep (Ij (show IsS84 w0 _ g s0_0 x1001_78 x1002_78 from by repeat (first | (with_reducible first | exact HI0.out | apply Ia | apply Ib | apply Ic | apply Ih | apply Ie) | exact HI0.out)) (by (with_reducible repeat (first | apply Sa | apply Sb | apply Sc)); exact HO_3.out) (by decide)) hk (fun _ h => h.2)) (fun _ h => h.1)); have n1_ := am (KeepBut.trans (by repeat (first | (with_reducible first | exact HK.out | apply Ke | apply Ka | apply Kb | apply Kc) | exact HK.out)) hk (.inl rfl)); have n2_ := am (hb); have n3_ := am (hi); clear HO_3; clear HK; clear HB; clear HI0; have HO_3 := n0_; have HK := n1_; have HB := n2_; have HI0 := n3_; clear n0_ n1_ n2_ n3_; (try clear hb); (try clear hb2); (try clear hk); (try clear hi); have p177 : 0 ≤ (t174 : Int) := of_decide_eq_true (by first | (with_reducible assumption) | assumption); have q177 : t174 < (x3_1.length : Int) := of_decide_eq_true (by first | (with_reducible assumption) | assumption); obtain ⟨ad177, A177_1, c177_1, A177_2, c177_2, e177, hx177_0, hx177_1, hx177_2, hx177_3, hx177_4, hl177_1, hi177_1, hl177_2, hi177_2⟩ := at_T32 (Kd.S_reads' HO_3.out).2.2 t174 p177 q177; cases e177; obtain ⟨ce177, hce177, hMe177, hcc177⟩ := Kd.S_get HO_3.out z32 t174 p177 (by first | exact q177 | exact of_decide_eq_true (by first | (with_reducible assumption) | assumption) | (have e_ := (Kd.S_reads' HO_3.out).1; omega)); obtain ⟨ve177_1, ve177_2, rfl, ge177_1, ge177_2⟩ := k32_openM hMe177; have hv177_1 := hcc177 1 _ rfl; rw [add_field _ _ 1 (by omega)] at hv177_1; replace hv177_1 := Option.some.inj (hv177_1.symm.trans hx177_1); rw [hv177_1] at ge177_1; have HL177_1 := am (show Kd.R Kd.string 9 _ _ _ _ ((rd_T32 x3_1 t174).f1) from ge177_1); clear hv177_1 ge177_1; have hv177_2 := hcc177 2 _ rfl; rw [add_field _ _ 2 (by omega)] at hv177_2; replace hv177_2 := Option.some.inj (hv177_2.symm.trans hx177_2); rw [hv177_2] at ge177_2; have HL177_2 := am (show Kd.R Kd.string 9 _ _ _ _ ((rd_T32 x3_1 t174).f2) from ge177_2); clear hv177_2 ge177_2; clear hcc177 hce177; have HR177_1 := am hi177_1; have HC177_1 := am hl177_1; clear hi177_1 hl177_1; have HR177_2 := am hi177_2; have HC177_2 := am hl177_2; clear hi177_2 hl177_2; replace p177 := eq_true p177; replace q177 := eq_true q177) | ((with_reducible refine gate_callee (f := 61) rfl ?_); refine goesL_ (some 94) rfl rfl Try.func61 (by kernel_rfl) rfl #[.pointer (some ⟨g, 0, none⟩), .int .i64 4] rfl (by (try simp only [List.map_toArray, List.map_cons, List.map_nil]); first | done | rfl | (simp only [List.length_drop, List.length_take]; rfl)) ?_; (with_reducible refine (spec_l1Below.calls g s0_0 t175 t176 4 t178 t179 t180 w0 _ ?side1 ?side2 A90.out).mono ?_); (case side1 => repeat (first | (with_reducible first | exact HI0.out | apply Ia | apply Ib | apply Ic | apply Ih | apply Ie) | exact HI0.out)); (case side2 => repeat (first | (with_reducible first | exact HB.out | apply Bb | apply Ba | apply Bc | refine Bd ?_ (IsS84.ge HI0.out)) | exact HB.out)); rintro e w111 ⟨rfl, hi, hb, hk⟩; refine ⟨_, rfl, ?_⟩; have n0_ := am (Kd.S_mono (Kd.S_keep (Ij (show IsS84 w0 _ g s0_0 t175 t176 from by repeat (first | (with_reducible first | exact HI0.out | apply Ia | apply Ib | apply Ic | apply Ih | apply Ie) | exact HI0.out)) (by (with_reducible repeat (first | apply Sa | apply Sb | apply Sc)); exact HO_3.out) (by decide)) hk (fun _ h => h.2)) (fun _ h => h.1)); have n1_ := am (Kd.R_mono (Kd.R_keep (Ig (show IsS84 w0 _ g s0_0 t175 t176 from by repeat (first | (with_reducible first | exact HI0.out | apply Ia | apply Ib | apply Ic | apply Ih | apply Ie) | exact HI0.out)) (by (with_reducible repeat (first | apply Ra | apply Rb | apply Rc)); exact HL177_1.out) (by decide)) hk (fun _ h => h.2)) (fun _ h => h.1)); have n2_ := am (Kd.R_mono (Kd.R_keep (Ig (show IsS84 w0 _ g s0_0 t175 t176 from by repeat (first | (with_reducible first | exact HI0.out | apply Ia | apply Ib | apply Ic | apply Ih | apply Ie) | exact HI0.out)) (by (with_reducible repeat (first | apply Ra | apply Rb | apply Rc)); exact HL177_2.out) (by decide)) hk (fun _ h => h.2)) (fun _ h => h.1)); have n3_ := am (KeepBut.trans (by repeat (first | (with_reducible first | exact HK.out | apply Ke | apply Ka | apply Kb | apply Kc) | exact HK.out)) hk (.inl rfl)); have n4_ := am (hb); have n5_ := am (hi); clear HO_3; clear HL177_1; clear HL177_2; clear HK; clear HB; clear HI0; have HO_3 := n0_; have HL177_1 := n1_; have HL177_2 := n2_; have HK := n3_; have HB := n4_; have HI0 := n5_; clear n0_ n1_ n2_ n3_ n4_ n5_; (try clear hb); (try clear hb2); (try clear hk); (try clear hi)) | ((with_reducible refine gate_dst (N := 109) rfl ?_); (try (refine gate_guard (by rfl) ?_; dsimp only)); refine Kd.R_lit Kd.string _ 9 ?hg (N := 109) ?hd (xs := ([(⟨#[]⟩ : ByteArray)] : List ByteArray)) (inner := [.string (⟨#[]⟩ : ByteArray)]) (ok := fun _ => True) (okp := fun _ => True) ?hr ?hp (fun _ hk => hk) trivial (Below.refl _ _) (Nat.le_refl _) (by simp) ?_; (case hd => rfl); (case hg => rfl); (case hr => first | (go_simp; done) | (go_simp; rfl)); (case hp => exact (Reps.one (show Kd.M Kd.string _ _ _ (⟨#[]⟩ : ByteArray) [.string (⟨#[]⟩ : ByteArray)] from rfl) (Reps.none _ _))); intro v187 w112 ho113 hb hg_ hnew_; clear hg_ hnew_; (first | rw [← Ny186.out] at ho113 | (simp only [Int.reduceToNat] at ho113; rw [← Ny186.out] at ho113)); have n0_ := am (Kd.S_elder' (by (with_reducible repeat (first | apply Sa | apply Sb | apply Sc)); exact HO_3.out) (Kd.R_base ho113) hb); have n1_ := am (Kd.R_elder' (by (with_reducible repeat (first | apply Ra | apply Rb | apply Rc)); exact HL177_1.out) (Kd.R_base ho113) hb); have n2_ := am (Kd.R_elder' (by (with_reducible repeat (first | apply Ra | apply Rb | apply Rc)); exact HL177_2.out) (Kd.R_base ho113) hb); have n3_ := am (Kd.R_lower (Kd.R_new' (Kd.R_new' ho113 (Kd.R_lt (by (with_reducible repeat (first | apply Ra | apply Rb | apply Rc)); exact HL177_1.out))) (Kd.R_lt (by (with_reducible repeat (first | apply Ra | apply Rb | apply Rc)); exact HL177_2.out))) (keep_size (w := w) (g := g) (row := none) (by repeat (first | (with_reducible first | exact HK.out | apply Ke | apply Ka | apply Kb | apply Kc) | exact HK.out)))); have n4_ := am (IsS84.below (by repeat (first | (with_reducible first | exact HI0.out | apply Ia | apply Ib | apply Ic | apply Ih | apply Ie) | exact HI0.out)) hb); have n5_ := am (KeepBut.trans (by repeat (first | (with_reducible first | exact HK.out | apply Ke | apply Ka | apply Kb | apply Kc) | exact HK.out)) (KeepBut.of_below hb g none) (.inl rfl)); have n6_ := am (below_step (by repeat (first | (with_reducible first | exact HB.out | apply Bb | apply Ba | apply Bc | refine Bd ?_ (IsS84.ge HI0.out)) | exact HB.out)) hb); clear HO_3; clear HL177_1; clear HL177_2; clear HI0; clear HK; clear HB; have HO_3 := n0_; have HL177_1 := n1_; have HL177_2 := n2_; have HO188 := n3_; have HI0 := n4_; have HK := n5_; have HB := n6_; clear n0_ n1_ n2_ n3_ n4_ n5_ n6_; clear hb ho113; have p108 : 0 ≤ (t174 : Int) := of_decide_eq_true (by first | (with_reducible assumption) | assumption); have q108 : (t174 : Int) < ((x3_1.length : Int) : Int) := of_decide_eq_true (by first | (with_reducible assumption) | assumption); obtain ⟨go108, co108, eo108, gb108, gl108, cl108, HG108⟩ := Kd.S_form HO_3.out (by omega); (first | cases eo108 | (injection eo108 with ea_ en_ ec_; (first | subst ea_ | (injection ea_ with ea_; subst ea_)); subst ec_; clear en_)); have GB108 := am gb108; have GG108 := am HG108; clear gb108 gl108 HG108; (first | simp only [add_plain] at hx177_0 | skip); (first | simp only [add_plain] at hx177_1 | skip); (first | simp only [add_plain] at hx177_2 | skip); (first | simp only [add_plain] at hx177_3 | skip); (first | simp only [add_plain] at hx177_4 | skip); obtain ⟨_, ce108, hcl108, hM108, hcc108, hfr108, _, _⟩ := Kd.S_elem HO_3.out z32 (t174 : Int) p108 q108; obtain ⟨ve108_1, ve108_2, rfl, ge108_1, ge108_2⟩ := k32_openM hM108; have hx108_0 : w112.cell? ⟨go108, (t174 : Int).toNat * 5, none⟩ = some (.string ((rd_T32 x3_1 t174).f0)) := hcc108 0 _ rfl; have hx108_1 : w112.cell? ⟨go108, (t174 : Int).toNat * 5 + 1, none⟩ = some (ve108_1) := hcc108 1 _ rfl; have hx108_2 : w112.cell? ⟨go108, (t174 : Int).toNat * 5 + 2, none⟩ = some (ve108_2) := hcc108 2 _ rfl; have hx108_3 : w112.cell? ⟨go108, (t174 : Int).toNat * 5 + 3, none⟩ = some (.string ((rd_T32 x3_1 t174).f3)) := hcc108 3 _ rfl; have hx108_4 : w112.cell? ⟨go108, (t174 : Int).toNat * 5 + 4, none⟩ = some (.bool ((rd_T32 x3_1 t174).f4)) := hcc108 4 _ rfl; have hf108_0 : w112.frozen? ⟨go108, (t174 : Int).toNat * 5, none⟩ = false := hfr108 0; have hf108_1 : w112.frozen? ⟨go108, (t174 : Int).toNat * 5 + 1, none⟩ = false := hfr108 1; have hf108_2 : w112.frozen? ⟨go108, (t174 : Int).toNat * 5 + 2, none⟩ = false := hfr108 2; have hf108_3 : w112.frozen? ⟨go108, (t174 : Int).toNat * 5 + 3, none⟩ = false := hfr108 3; have hf108_4 : w112.frozen? ⟨go108, (t174 : Int).toNat * 5 + 4, none⟩ = false := hfr108 4; clear hcl108 hcc108 hfr108 hM108; replace p108 := eq_true p108; replace q108 := eq_true q108; have n_ := am (Kd.S_mono (ok' := (fun k_ => some k_ ≠ (v187 : Value).ownBlock)) HO_3.out (fun k_ hk => hk.2)); clear HO_3; have HO_3 := n_; clear n_; have HX114 := am (show Kd.S k32 32 w112 w.heap.size (fun k_ => ((fun _ => True)) k_ ∧ ¬ ((fun k_ => some k_ = (v187 : Value).ownBlock)) k_) (.slice (some ⟨go108, 0, none⟩) x3_1.length co109) x3_1 from (by (with_reducible repeat (first | apply Sa | apply Sb | apply Sc)); exact Kd.S_mono HO_3.out (fun k_ hk => ⟨trivial, fun e_ => hk e_⟩))); obtain ⟨oki114, ce114, hcl114, hM114, hcc114, hfr114, hoki114, hH114⟩ := Kd.S_elem HX114.out z32 (t174 : Int) (of_decide_eq_true (by first | (with_reducible assumption) | assumption)) (by have h_ : (t174 : Int) < ((x3_1.length : Int) : Int) := of_decide_eq_true (by first | (with_reducible assumption) | assumption); first | exact h_ | (have e_ := (Kd.S_reads' HO_3.out).1; omega) | simpa using h_); obtain ⟨ve114_1, ve114_2, rfl, ge114_1, ge114_2⟩ := k32_openM hM114; have HP114 := Kd.S_seg hH114 (of_decide_eq_true (by first | (with_reducible assumption) | assumption)) (by have h_ : (t174 : Int) < ((x3_1.length : Int) : Int) := of_decide_eq_true (by first | (with_reducible assumption) | assumption); first | exact h_ | (have e_ := (Kd.S_reads' HO_3.out).1; omega) | simpa using h_) (seg := [v187]) (j := 2) (show 3 ≤ 5 from by decide) (x' := (⟨(rd_T32 x3_1 t174).f0, (rd_T32 x3_1 t174).f1, y186, (rd_T32 x3_1 t174).f3, (rd_T32 x3_1 t174).f4⟩ : S32)) (k32_mkM _ _ _ (⟨(rd_T32 x3_1 t174).f0, (rd_T32 x3_1 t174).f1, y186, (rd_T32 x3_1 t174).f3, (rd_T32 x3_1 t174).f4⟩ : S32) (Kd.R_mono ge114_1 (fun _ h_ => Or.inl h_)) (Kd.R_mono (Kd.R_tight rfl (Kd.R_mono (ok' := fun k_ => ((fun _ => True)) k_ ∧ k_ ≠ go108) (Kd.R_apart' (HO188.out) (Kd.S_typed HO_3.out) (by decide)) (fun k_ hk => ⟨trivial, fun e_ => (hk.2) (by rw [e_]; rfl)⟩))) (fun _ h_ => Or.inr (h_)))) (fun _ hk => hk) (fun k_ hk_ => ((Kd.R_mono (ok' := fun k_ => ((fun _ => True)) k_ ∧ k_ ≠ go108) (Kd.R_apart' (HO188.out) (Kd.S_typed HO_3.out) (by decide)) (fun k_ hk => ⟨trivial, fun e_ => (hk.2) (by rw [e_]; rfl)⟩))).1 k_ hk_.symm); have hx114_2 := hcc114 2 _ rfl; (try simp only [show (k32).sz = 5 from rfl, Nat.mul_one, Nat.add_zero] at hx114_2); have hf114_2 := hfr114 2; (try simp only [show (k32).sz = 5 from rfl, Nat.mul_one, Nat.add_zero] at hf114_2); clear hcl114 hcc114 hfr114 hM114 hoki114 hH114) | ((with_reducible refine gate_store (t := 25) (p := 111) rfl ?_); refine store_event (t := 25) (p := 111) (v := ?vo_w115) (w1 := (w112.setCell ⟨go108, (t174 : Int).toNat * 5 + 2, none⟩ (v187))) ?hg ?ho ?hn ?hr ?_; (case ho => rfl); (case hg => rfl); (case hn => rfl); (case hr => first | (go_simp; done) | (go_simp; rfl) | (obtain ⟨_, _, rfl⟩ := Kd.R_slice HO188.out; first | (go_simp; done) | (go_simp; rfl))); intro w115 hw; have hg : w112.grownBy w115 (some go108) := (by rw [hw]; exact HP114.2); have hp_ : Kd.S k32 32 w115 w.heap.size (fun _ => True) (.slice (some ⟨go108, 0, none⟩) x3_1.length co109) y189 := (by rw [hw, Ny189.out]; exact HP114.1); clear HP114; have n0_ := am (hp_); have n1_ := am (IsS84.grown (by repeat (first | (with_reducible first | exact HI0.out | apply Ia | apply Ib | apply Ic | apply Ih | apply Ie) | exact HI0.out)) hg (IsS84.own_neS HI0.out HO_3.out (by decide))); have n2_ := am (Kd.R_after (v := (.slice (some ⟨go108, 0, none⟩) x3_1.length co109)) (v1 := (.slice (some ⟨go108, 0, none⟩) x3_1.length co109)) (ok := (fun k_ => some k_ ≠ (v187 : Value).ownBlock)) (by (with_reducible repeat (first | apply Ra | apply Rb | apply Rc)); exact Kd.R_mono HL177_1.out (fun _ hk => ⟨hk.2, hk.1.2⟩)) hg (.inl rfl)); have n3_ := am (Kd.R_after (v := (.slice (some ⟨go108, 0, none⟩) x3_1.length co109)) (v1 := (.slice (some ⟨go108, 0, none⟩) x3_1.length co109)) (ok := (fun k_ => some k_ ≠ (v187 : Value).ownBlock)) (by (with_reducible repeat (first | apply Ra | apply Rb | apply Rc)); exact Kd.R_mono HL177_2.out (fun _ hk => ⟨hk.2, hk.1.2⟩)) hg (.inl rfl)); have n4_ := am ((by rw [hw]; exact Bd (HB.out) (Nat.le_trans HL.out GB108.out) : Below w0.heap.size w0 w115)); have n5_ := am (KeepBut.trans (by repeat (first | (with_reducible first | exact HK.out | apply Ke | apply Ka | apply Kb | apply Kc) | exact HK.out)) (KeepBut.of_grown hg g) (Kd.S_base2 HO_3.out)); clear HO_3; clear HI0; clear HL177_1; clear HL177_2; clear HB; clear HK; clear HO188; have HO_3 := n0_; have HI0 := n1_; have HL177_1 := n2_; have HL177_2 := n3_; have HB := n4_; have HK := n5_; clear n0_ n1_ n2_ n3_ n4_ n5_; clear hg hw hp_))
            go_ret
            exact ⟨_, by first | rfl | (simp [errW_none, errW_some] <;> rfl) | (simp [*, errW_none, errW_some] <;> rfl), by (with_reducible repeat (first | apply Sa | apply Sb | apply Sc)); exact HO_3.out, by repeat (first | (with_reducible first | exact HI0.out | apply Ia | apply Ib | apply Ic | apply Ih | apply Ie) | exact HI0.out), by repeat (first | (with_reducible first | exact HB.out | apply Bb | apply Ba | apply Bc | refine Bd ?_ (IsS84.ge HI0.out)) | exact HB.out), by repeat (first | (with_reducible first | exact HK.out | apply Ke | apply Ka | apply Kb | apply Kc) | exact HK.out)⟩
           ·
            rw [if_neg c107] at H
            have c107b0 : (t178 == 2) = false := beq_eq_false_iff_ne.mpr c107
            have c107b1 : (t178 != 2) = true := bne_iff_ne.mpr c107
            by_cases c116 : t178 = 3
            ·
             rw [if_pos c116] at H
             have c116b0 : (t178 == 3) = true := beq_iff_eq.mpr c116
             have c116b1 : (t178 != 3) = false := bne_eq_false_iff_eq.mpr c116
             clear c116
             replace H := Option.bind_eq_some_iff.mp H
             obtain ⟨⟨t190, t191, t192⟩, A1170, H⟩ := H
             replace H : (if 0 ≤ (wrap64 (4000 + t190)) then (if (wrap64 (4000 + t190) : Int).toNat ≤ 281474976710656 then (some ((x3_1.set (t174 : Int).toNat (⟨(rd_T32 x3_1 t174).f0, (rd_T32 x3_1 t174).f1, (rd_T32 x3_1 t174).f2, strOfNums (List.replicate (wrap64 (4000 + t190) : Int).toNat 0), (rd_T32 x3_1 t174).f4⟩ : S32)), t191, t192)) else (none)) else (none)) = some (r1, r2, r3) := H
             have A117 := am A1170
             clear A1170
             obtain ⟨ji118, hji118⟩ : ∃ j_ : Int, (wrap64 (4000 + t190)) = j_ := ⟨_, rfl⟩
             replace H : (if 0 ≤ (ji118) then (if (ji118 : Int).toNat ≤ 281474976710656 then (some ((x3_1.set (t174 : Int).toNat (⟨(rd_T32 x3_1 t174).f0, (rd_T32 x3_1 t174).f1, (rd_T32 x3_1 t174).f2, strOfNums (List.replicate (ji118 : Int).toNat 0), (rd_T32 x3_1 t174).f4⟩ : S32)), t191, t192)) else (none)) else (none)) = some (r1, r2, r3) := by first | (rw [hji118] at H; exact H) | (simp only [hji118] at H ⊢; exact H)
             (try rw [hji118] at A87)
             (try rw [hji118] at A90)
             (try rw [hji118] at A117)
             have hji118w : (IntKind.i64.wrap (4000 + t190)) = ji118 := (i64_w _).trans hji118
             by_cases c119 : 0 ≤ (ji118)
             ·
              rw [if_pos c119] at H
              have c119b0 := eq_true c119
              have c119b1 : decide (0 ≤ (ji118)) = true := decide_eq_true c119
              clear c119
              by_cases c120 : (ji118 : Int).toNat ≤ 281474976710656
              ·
               rw [if_pos c120] at H
               have c120b0 := eq_true c120
               have c120b1 : decide ((ji118 : Int).toNat ≤ 281474976710656) = true := decide_eq_true c120
               clear c120
               obtain ⟨y193, hy193⟩ : ∃ y_ : List Int, y_ = (List.replicate (ji118 : Int).toNat 0) := ⟨_, rfl⟩
               replace H : (some ((x3_1.set (t174 : Int).toNat (⟨(rd_T32 x3_1 t174).f0, (rd_T32 x3_1 t174).f1, (rd_T32 x3_1 t174).f2, strOfNums y193, (rd_T32 x3_1 t174).f4⟩ : S32)), t191, t192)) = some (r1, r2, r3) := by first | (rw [hy193]; with_reducible exact H) | (have H2_ := (Option.bind_some _ _).symm.trans H; rw [hy193]; with_reducible exact H2_) | (have H2_ := (Option.bind_some _ _).symm.trans H; with_reducible exact H2_) | with_reducible exact H | (rw [hy193]; exact H) | exact H
               have Ny193 := am hy193
               clear hy193
               obtain ⟨y196, hy196⟩ : ∃ y_ : List (S32), y_ = (x3_1.set (t174 : Int).toNat (⟨(rd_T32 x3_1 t174).f0, (rd_T32 x3_1 t174).f1, (rd_T32 x3_1 t174).f2, strOfNums y193, (rd_T32 x3_1 t174).f4⟩ : S32)) := ⟨_, rfl⟩
               replace H : (some (y196, t191, t192)) = some (r1, r2, r3) := by first | (rw [hy196]; with_reducible exact H) | (have H2_ := (Option.bind_some _ _).symm.trans H; rw [hy196]; with_reducible exact H2_) | (have H2_ := (Option.bind_some _ _).symm.trans H; with_reducible exact H2_) | with_reducible exact H | (rw [hy196]; exact H) | exact H
               have Ny196 := am hy196
               clear hy196
               simp only [Option.some.injEq, Prod.mk.injEq] at H
               obtain ⟨rfl, rfl, rfl⟩ := H
               obtain ⟨Ao122, co122, eo122⟩ := Kd.S_slice HO_3.out
               subst eo122
               go_wp2_with (first | ((with_reducible refine gate_callee (f := 61) rfl ?_); refine goesL_ (some 91) rfl rfl Try.func61 (by kernel_rfl) rfl #[.pointer (some ⟨g, 0, none⟩), .int .i64 (x3_1.length : Int)] rfl (by (try simp only [List.map_toArray, List.map_cons, List.map_nil]); first | done | rfl | (simp only [List.length_drop, List.length_take]; rfl)) ?_; (with_reducible refine (spec_l1Below.calls g s0_0 x1001_78 x1002_78 (x3_1.length : Int) t174 t175 t176 w0 _ ?side1 ?side2 A87.out).mono ?_); (case side1 => repeat (first | (with_reducible first | exact HI0.out | apply Ia | apply Ib | apply Ic | apply Ih | apply Ie) | exact HI0.out)); (case side2 => repeat (first | (with_reducible first | exact HB.out | apply Bb | apply Ba | apply Bc | refine Bd ?_ (IsS84.ge HI0.out)) | exact HB.out)); rintro e w123 ⟨rfl, hi, hb, hk⟩; refine ⟨_, rfl, ?_⟩; have n0_ := am (Kd.S_mono (Kd.S_keep (Ij (show IsS84 w0 _ g s0_0 x1001_78 x1002_78 from by repeat (first | (with_reducible first | exact HI0.out | apply Ia | apply Ib | apply Ic | apply Ih | apply Ie) | exact HI0.out)) (by (with_reducible repeat (first | apply Sa | apply Sb | apply Sc)); exact HO_3.out) (by decide)) hk (fun _ h => h.2)) (fun _ h => h.1)); have n1_ := am (KeepBut.trans (by repeat (first | (with_reducible first | exact HK.out | apply Ke | apply Ka | apply Kb | apply Kc) | exact HK.out)) hk (.inl rfl)); have n2_ := am (hb); have n3_ := am (hi); clear HO_3; clear HK; clear HB; clear HI0; have HO_3 := n0_; have HK := n1_; have HB := n2_; have HI0 := n3_; clear n0_ n1_ n2_ n3_; (try clear hb); (try clear hb2); (try clear hk); (try clear hi); have p177 : 0 ≤ (t174 : Int) := of_decide_eq_true (by first | (with_reducible assumption) | assumption); have q177 : t174 < (x3_1.length : Int) := of_decide_eq_true (by first | (with_reducible assumption) | assumption); obtain ⟨ad177, A177_1, c177_1, A177_2, c177_2, e177, hx177_0, hx177_1, hx177_2, hx177_3, hx177_4, hl177_1, hi177_1, hl177_2, hi177_2⟩ := at_T32 (Kd.S_reads' HO_3.out).2.2 t174 p177 q177; cases e177; obtain ⟨ce177, hce177, hMe177, hcc177⟩ := Kd.S_get HO_3.out z32 t174 p177 (by first | exact q177 | exact of_decide_eq_true (by first | (with_reducible assumption) | assumption) | (have e_ := (Kd.S_reads' HO_3.out).1; omega)); obtain ⟨ve177_1, ve177_2, rfl, ge177_1, ge177_2⟩ := k32_openM hMe177; have hv177_1 := hcc177 1 _ rfl; rw [add_field _ _ 1 (by omega)] at hv177_1; replace hv177_1 := Option.some.inj (hv177_1.symm.trans hx177_1); rw [hv177_1] at ge177_1; have HL177_1 := am (show Kd.R Kd.string 9 _ _ _ _ ((rd_T32 x3_1 t174).f1) from ge177_1); clear hv177_1 ge177_1; have hv177_2 := hcc177 2 _ rfl; rw [add_field _ _ 2 (by omega)] at hv177_2; replace hv177_2 := Option.some.inj (hv177_2.symm.trans hx177_2); rw [hv177_2] at ge177_2; have HL177_2 := am (show Kd.R Kd.string 9 _ _ _ _ ((rd_T32 x3_1 t174).f2) from ge177_2); clear hv177_2 ge177_2; clear hcc177 hce177; have HR177_1 := am hi177_1; have HC177_1 := am hl177_1; clear hi177_1 hl177_1; have HR177_2 := am hi177_2; have HC177_2 := am hl177_2; clear hi177_2 hl177_2; replace p177 := eq_true p177; replace q177 := eq_true q177) | ((with_reducible refine gate_callee (f := 61) rfl ?_); refine goesL_ (some 94) rfl rfl Try.func61 (by kernel_rfl) rfl #[.pointer (some ⟨g, 0, none⟩), .int .i64 4] rfl (by (try simp only [List.map_toArray, List.map_cons, List.map_nil]); first | done | rfl | (simp only [List.length_drop, List.length_take]; rfl)) ?_; (with_reducible refine (spec_l1Below.calls g s0_0 t175 t176 4 t178 t179 t180 w0 _ ?side1 ?side2 A90.out).mono ?_); (case side1 => repeat (first | (with_reducible first | exact HI0.out | apply Ia | apply Ib | apply Ic | apply Ih | apply Ie) | exact HI0.out)); (case side2 => repeat (first | (with_reducible first | exact HB.out | apply Bb | apply Ba | apply Bc | refine Bd ?_ (IsS84.ge HI0.out)) | exact HB.out)); rintro e w124 ⟨rfl, hi, hb, hk⟩; refine ⟨_, rfl, ?_⟩; have n0_ := am (Kd.S_mono (Kd.S_keep (Ij (show IsS84 w0 _ g s0_0 t175 t176 from by repeat (first | (with_reducible first | exact HI0.out | apply Ia | apply Ib | apply Ic | apply Ih | apply Ie) | exact HI0.out)) (by (with_reducible repeat (first | apply Sa | apply Sb | apply Sc)); exact HO_3.out) (by decide)) hk (fun _ h => h.2)) (fun _ h => h.1)); have n1_ := am (Kd.R_mono (Kd.R_keep (Ig (show IsS84 w0 _ g s0_0 t175 t176 from by repeat (first | (with_reducible first | exact HI0.out | apply Ia | apply Ib | apply Ic | apply Ih | apply Ie) | exact HI0.out)) (by (with_reducible repeat (first | apply Ra | apply Rb | apply Rc)); exact HL177_1.out) (by decide)) hk (fun _ h => h.2)) (fun _ h => h.1)); have n2_ := am (Kd.R_mono (Kd.R_keep (Ig (show IsS84 w0 _ g s0_0 t175 t176 from by repeat (first | (with_reducible first | exact HI0.out | apply Ia | apply Ib | apply Ic | apply Ih | apply Ie) | exact HI0.out)) (by (with_reducible repeat (first | apply Ra | apply Rb | apply Rc)); exact HL177_2.out) (by decide)) hk (fun _ h => h.2)) (fun _ h => h.1)); have n3_ := am (KeepBut.trans (by repeat (first | (with_reducible first | exact HK.out | apply Ke | apply Ka | apply Kb | apply Kc) | exact HK.out)) hk (.inl rfl)); have n4_ := am (hb); have n5_ := am (hi); clear HO_3; clear HL177_1; clear HL177_2; clear HK; clear HB; clear HI0; have HO_3 := n0_; have HL177_1 := n1_; have HL177_2 := n2_; have HK := n3_; have HB := n4_; have HI0 := n5_; clear n0_ n1_ n2_ n3_ n4_ n5_; (try clear hb); (try clear hb2); (try clear hk); (try clear hi)) | ((with_reducible refine gate_callee (f := 61) rfl ?_); refine goesL_ (some 116) rfl rfl Try.func61 (by kernel_rfl) rfl #[.pointer (some ⟨g, 0, none⟩), .int .i64 2] rfl (by (try simp only [List.map_toArray, List.map_cons, List.map_nil]); first | done | rfl | (simp only [List.length_drop, List.length_take]; rfl)) ?_; (with_reducible refine (spec_l1Below.calls g s0_0 t179 t180 2 t190 t191 t192 w0 _ ?side1 ?side2 A117.out).mono ?_); (case side1 => repeat (first | (with_reducible first | exact HI0.out | apply Ia | apply Ib | apply Ic | apply Ih | apply Ie) | exact HI0.out)); (case side2 => repeat (first | (with_reducible first | exact HB.out | apply Bb | apply Ba | apply Bc | refine Bd ?_ (IsS84.ge HI0.out)) | exact HB.out)); rintro e w125 ⟨rfl, hi, hb, hk⟩; refine ⟨_, rfl, ?_⟩; have n0_ := am (Kd.S_mono (Kd.S_keep (Ij (show IsS84 w0 _ g s0_0 t179 t180 from by repeat (first | (with_reducible first | exact HI0.out | apply Ia | apply Ib | apply Ic | apply Ih | apply Ie) | exact HI0.out)) (by (with_reducible repeat (first | apply Sa | apply Sb | apply Sc)); exact HO_3.out) (by decide)) hk (fun _ h => h.2)) (fun _ h => h.1)); have n1_ := am (Kd.R_mono (Kd.R_keep (Ig (show IsS84 w0 _ g s0_0 t179 t180 from by repeat (first | (with_reducible first | exact HI0.out | apply Ia | apply Ib | apply Ic | apply Ih | apply Ie) | exact HI0.out)) (by (with_reducible repeat (first | apply Ra | apply Rb | apply Rc)); exact HL177_1.out) (by decide)) hk (fun _ h => h.2)) (fun _ h => h.1)); have n2_ := am (Kd.R_mono (Kd.R_keep (Ig (show IsS84 w0 _ g s0_0 t179 t180 from by repeat (first | (with_reducible first | exact HI0.out | apply Ia | apply Ib | apply Ic | apply Ih | apply Ie) | exact HI0.out)) (by (with_reducible repeat (first | apply Ra | apply Rb | apply Rc)); exact HL177_2.out) (by decide)) hk (fun _ h => h.2)) (fun _ h => h.1)); have n3_ := am (KeepBut.trans (by repeat (first | (with_reducible first | exact HK.out | apply Ke | apply Ka | apply Kb | apply Kc) | exact HK.out)) hk (.inl rfl)); have n4_ := am (hb); have n5_ := am (hi); clear HO_3; clear HL177_1; clear HL177_2; clear HK; clear HB; clear HI0; have HO_3 := n0_; have HL177_1 := n1_; have HL177_2 := n2_; have HK := n3_; have HB := n4_; have HI0 := n5_; clear n0_ n1_ n2_ n3_ n4_ n5_; (try clear hb); (try clear hb2); (try clear hk); (try clear hi)) | ((with_reducible refine gate_dst (N := 118) rfl ?_); (try (refine gate_guard (by rfl) ?_; dsimp only)); refine Kd.R_make (Kd.int .u8) _ 5 rfl (N := 118) rfl 22 _ _ rfl ji118 rfl rfl Try.underlying22 (.int .u8 0) 1 info5 rfl (by decide) (by omega) 0 (ok := fun _ => True) (okp := fun _ => True) rfl (fun _ hk => hk) trivial (of_decide_eq_true (by first | (with_reducible assumption) | assumption)) (Nat.le_trans (Nat.mul_le_mul_right _ (of_decide_eq_true (by first | (with_reducible assumption) | assumption) : ji118.toNat ≤ 281474976710656)) (by omega)) (Below.refl _ _) (Nat.le_refl _) ?_; intro v194 w126 ho127 hb hg_ hnew_; clear hg_ hnew_; (first | rw [← Ny193.out] at ho127 | (simp only [Int.reduceToNat] at ho127; rw [← Ny193.out] at ho127)); have n0_ := am (Kd.S_below (by (with_reducible repeat (first | apply Sa | apply Sb | apply Sc)); exact HO_3.out) hb); have n1_ := am (Kd.R_below (by (with_reducible repeat (first | apply Ra | apply Rb | apply Rc)); exact HL177_1.out) hb); have n2_ := am (Kd.R_below (by (with_reducible repeat (first | apply Ra | apply Rb | apply Rc)); exact HL177_2.out) hb); have n3_ := am (Kd.R_lower ho127 (keep_size (w := w) (g := g) (row := none) (by repeat (first | (with_reducible first | exact HK.out | apply Ke | apply Ka | apply Kb | apply Kc) | exact HK.out)))); have n4_ := am (IsS84.below (by repeat (first | (with_reducible first | exact HI0.out | apply Ia | apply Ib | apply Ic | apply Ih | apply Ie) | exact HI0.out)) hb); have n5_ := am (KeepBut.trans (by repeat (first | (with_reducible first | exact HK.out | apply Ke | apply Ka | apply Kb | apply Kc) | exact HK.out)) (KeepBut.of_below hb g none) (.inl rfl)); have n6_ := am (below_step (by repeat (first | (with_reducible first | exact HB.out | apply Bb | apply Ba | apply Bc | refine Bd ?_ (IsS84.ge HI0.out)) | exact HB.out)) hb); clear HO_3; clear HL177_1; clear HL177_2; clear HI0; clear HK; clear HB; have HO_3 := n0_; have HL177_1 := n1_; have HL177_2 := n2_; have HO195 := n3_; have HI0 := n4_; have HK := n5_; have HB := n6_; clear n0_ n1_ n2_ n3_ n4_ n5_ n6_; clear hb ho127; have hcv128 := own_string (P := Try.prog) Try.underlying22 Try.underlying5 Try.underlying9 (Kd.own_of_R HO195.out); have p121 : 0 ≤ (t174 : Int) := of_decide_eq_true (by first | (with_reducible assumption) | assumption); have q121 : (t174 : Int) < ((x3_1.length : Int) : Int) := of_decide_eq_true (by first | (with_reducible assumption) | assumption); obtain ⟨go121, co121, eo121, gb121, gl121, cl121, HG121⟩ := Kd.S_form HO_3.out (by omega); (first | cases eo121 | (injection eo121 with ea_ en_ ec_; (first | subst ea_ | (injection ea_ with ea_; subst ea_)); subst ec_; clear en_)); have GB121 := am gb121; have GG121 := am HG121; clear gb121 gl121 HG121; (first | simp only [add_plain] at hx177_0 | skip); (first | simp only [add_plain] at hx177_1 | skip); (first | simp only [add_plain] at hx177_2 | skip); (first | simp only [add_plain] at hx177_3 | skip); (first | simp only [add_plain] at hx177_4 | skip); obtain ⟨_, ce121, hcl121, hM121, hcc121, hfr121, _, _⟩ := Kd.S_elem HO_3.out z32 (t174 : Int) p121 q121; obtain ⟨ve121_1, ve121_2, rfl, ge121_1, ge121_2⟩ := k32_openM hM121; have hx121_0 : w126.cell? ⟨go121, (t174 : Int).toNat * 5, none⟩ = some (.string ((rd_T32 x3_1 t174).f0)) := hcc121 0 _ rfl; have hx121_1 : w126.cell? ⟨go121, (t174 : Int).toNat * 5 + 1, none⟩ = some (ve121_1) := hcc121 1 _ rfl; have hx121_2 : w126.cell? ⟨go121, (t174 : Int).toNat * 5 + 2, none⟩ = some (ve121_2) := hcc121 2 _ rfl; have hx121_3 : w126.cell? ⟨go121, (t174 : Int).toNat * 5 + 3, none⟩ = some (.string ((rd_T32 x3_1 t174).f3)) := hcc121 3 _ rfl; have hx121_4 : w126.cell? ⟨go121, (t174 : Int).toNat * 5 + 4, none⟩ = some (.bool ((rd_T32 x3_1 t174).f4)) := hcc121 4 _ rfl; have hf121_0 : w126.frozen? ⟨go121, (t174 : Int).toNat * 5, none⟩ = false := hfr121 0; have hf121_1 : w126.frozen? ⟨go121, (t174 : Int).toNat * 5 + 1, none⟩ = false := hfr121 1; have hf121_2 : w126.frozen? ⟨go121, (t174 : Int).toNat * 5 + 2, none⟩ = false := hfr121 2; have hf121_3 : w126.frozen? ⟨go121, (t174 : Int).toNat * 5 + 3, none⟩ = false := hfr121 3; have hf121_4 : w126.frozen? ⟨go121, (t174 : Int).toNat * 5 + 4, none⟩ = false := hfr121 4; clear hcl121 hcc121 hfr121 hM121; replace p121 := eq_true p121; replace q121 := eq_true q121; have HX129 := am (show Kd.S k32 32 w126 w.heap.size (fun k_ => ((fun _ => True)) k_ ∧ ¬ ((fun _ => False)) k_) (.slice (some ⟨go121, 0, none⟩) x3_1.length co122) x3_1 from (by (with_reducible repeat (first | apply Sa | apply Sb | apply Sc)); exact Kd.S_mono HO_3.out (fun k_ hk => ⟨trivial, fun e_ => e_⟩))); obtain ⟨oki129, ce129, hcl129, hM129, hcc129, hfr129, hoki129, hH129⟩ := Kd.S_elem HX129.out z32 (t174 : Int) (of_decide_eq_true (by first | (with_reducible assumption) | assumption)) (by have h_ : (t174 : Int) < ((x3_1.length : Int) : Int) := of_decide_eq_true (by first | (with_reducible assumption) | assumption); first | exact h_ | (have e_ := (Kd.S_reads' HO_3.out).1; omega) | simpa using h_); obtain ⟨ve129_1, ve129_2, rfl, ge129_1, ge129_2⟩ := k32_openM hM129; have HP129 := Kd.S_seg hH129 (of_decide_eq_true (by first | (with_reducible assumption) | assumption)) (by have h_ : (t174 : Int) < ((x3_1.length : Int) : Int) := of_decide_eq_true (by first | (with_reducible assumption) | assumption); first | exact h_ | (have e_ := (Kd.S_reads' HO_3.out).1; omega) | simpa using h_) (seg := [.string (strOfNums y193)]) (j := 3) (show 4 ≤ 5 from by decide) (x' := (⟨(rd_T32 x3_1 t174).f0, (rd_T32 x3_1 t174).f1, (rd_T32 x3_1 t174).f2, strOfNums y193, (rd_T32 x3_1 t174).f4⟩ : S32)) (k32_mkM _ _ _ (⟨(rd_T32 x3_1 t174).f0, (rd_T32 x3_1 t174).f1, (rd_T32 x3_1 t174).f2, strOfNums y193, (rd_T32 x3_1 t174).f4⟩ : S32) (Kd.R_mono ge129_1 (fun _ h_ => Or.inl h_)) (Kd.R_mono ge129_2 (fun _ h_ => Or.inl h_))) (fun _ hk => hk) (fun k_ hk_ => hk_.elim); have hx129_3 := hcc129 3 _ rfl; (try simp only [show (k32).sz = 5 from rfl, Nat.mul_one, Nat.add_zero] at hx129_3); have hf129_3 := hfr129 3; (try simp only [show (k32).sz = 5 from rfl, Nat.mul_one, Nat.add_zero] at hf129_3); clear hcl129 hcc129 hfr129 hM129 hoki129 hH129) | ((with_reducible refine gate_store (t := 9) (p := 121) rfl ?_); refine store_event (t := 9) (p := 121) (v := ?vo_w130) (w1 := (w126.setCell ⟨go121, (t174 : Int).toNat * 5 + 3, none⟩ (.string (strOfNums y193)))) ?hg ?ho ?hn ?hr ?_; (case ho => rfl); (case hg => rfl); (case hn => rfl); (case hr => first | (go_simp; done) | (go_simp; rfl)); intro w130 hw; have hg : w126.grownBy w130 (some go121) := (by rw [hw]; exact HP129.2); have hp_ : Kd.S k32 32 w130 w.heap.size (fun _ => True) (.slice (some ⟨go121, 0, none⟩) x3_1.length co122) y196 := (by rw [hw, Ny196.out]; exact HP129.1); clear HP129; have n0_ := am (hp_); have n1_ := am (IsS84.grown (by repeat (first | (with_reducible first | exact HI0.out | apply Ia | apply Ib | apply Ic | apply Ih | apply Ie) | exact HI0.out)) hg (IsS84.own_neS HI0.out HO_3.out (by decide))); have n2_ := am (Kd.R_after (v := (.slice (some ⟨go121, 0, none⟩) x3_1.length co122)) (v1 := (.slice (some ⟨go121, 0, none⟩) x3_1.length co122)) (ok := (fun _ => True)) (by (with_reducible repeat (first | apply Ra | apply Rb | apply Rc)); exact HL177_1.out) hg (.inl rfl)); have n3_ := am (Kd.R_after (v := (.slice (some ⟨go121, 0, none⟩) x3_1.length co122)) (v1 := (.slice (some ⟨go121, 0, none⟩) x3_1.length co122)) (ok := (fun _ => True)) (by (with_reducible repeat (first | apply Ra | apply Rb | apply Rc)); exact HL177_2.out) hg (.inl rfl)); have n4_ := am (Kd.R_over' (v := (.slice (some ⟨go121, 0, none⟩) x3_1.length co122)) (by (with_reducible repeat (first | apply Ra | apply Rb | apply Rc)); exact HO195.out) (Kd.S_typed HO_3.out) (by decide) hg); have n5_ := am ((by rw [hw]; exact Bd (HB.out) (Nat.le_trans HL.out GB121.out) : Below w0.heap.size w0 w130)); have n6_ := am (KeepBut.trans (by repeat (first | (with_reducible first | exact HK.out | apply Ke | apply Ka | apply Kb | apply Kc) | exact HK.out)) (KeepBut.of_grown hg g) (Kd.S_base2 HO_3.out)); clear HO_3; clear HI0; clear HL177_1; clear HL177_2; clear HO195; clear HB; clear HK; have HO_3 := n0_; have HI0 := n1_; have HL177_1 := n2_; have HL177_2 := n3_; have HO195 := n4_; have HB := n5_; have HK := n6_; clear n0_ n1_ n2_ n3_ n4_ n5_ n6_; clear hg hw hp_))
               go_ret
               exact ⟨_, by first | rfl | (simp [errW_none, errW_some] <;> rfl) | (simp only [← hji118]; first | rfl | (simp [errW_none, errW_some] <;> rfl)) | (simp [*, errW_none, errW_some] <;> rfl), by (with_reducible repeat (first | apply Sa | apply Sb | apply Sc)); exact HO_3.out, by repeat (first | (with_reducible first | exact HI0.out | apply Ia | apply Ib | apply Ic | apply Ih | apply Ie) | exact HI0.out), by repeat (first | (with_reducible first | exact HB.out | apply Bb | apply Ba | apply Bc | refine Bd ?_ (IsS84.ge HI0.out)) | exact HB.out), by repeat (first | (with_reducible first | exact HK.out | apply Ke | apply Ka | apply Kb | apply Kc) | exact HK.out)⟩
              ·
               rw [if_neg c120] at H
               exact absurd H (by simp)
             ·
              rw [if_neg c119] at H
              exact absurd H (by simp)
            ·
             rw [if_neg c116] at H
             have c116b0 : (t178 == 3) = false := beq_eq_false_iff_ne.mpr c116
             have c116b1 : (t178 != 3) = true := bne_iff_ne.mpr c116
             simp only [Option.some.injEq, Prod.mk.injEq] at H
             obtain ⟨rfl, rfl, rfl⟩ := H
             obtain ⟨Ao131, co131, eo131⟩ := Kd.S_slice HO_3.out
             subst eo131
             go_wp2_with (first | ((with_reducible refine gate_callee (f := 61) rfl ?_); refine goesL_ (some 91) rfl rfl Try.func61 (by kernel_rfl) rfl #[.pointer (some ⟨g, 0, none⟩), .int .i64 (x3_1.length : Int)] rfl (by (try simp only [List.map_toArray, List.map_cons, List.map_nil]); first | done | rfl | (simp only [List.length_drop, List.length_take]; rfl)) ?_; (with_reducible refine (spec_l1Below.calls g s0_0 x1001_78 x1002_78 (x3_1.length : Int) t174 t175 t176 w0 _ ?side1 ?side2 A87.out).mono ?_); (case side1 => repeat (first | (with_reducible first | exact HI0.out | apply Ia | apply Ib | apply Ic | apply Ih | apply Ie) | exact HI0.out)); (case side2 => repeat (first | (with_reducible first | exact HB.out | apply Bb | apply Ba | apply Bc | refine Bd ?_ (IsS84.ge HI0.out)) | exact HB.out)); rintro e w132 ⟨rfl, hi, hb, hk⟩; refine ⟨_, rfl, ?_⟩; have n0_ := am (Kd.S_mono (Kd.S_keep (Ij (show IsS84 w0 _ g s0_0 x1001_78 x1002_78 from by repeat (first | (with_reducible first | exact HI0.out | apply Ia | apply Ib | apply Ic | apply Ih | apply Ie) | exact HI0.out)) (by (with_reducible repeat (first | apply Sa | apply Sb | apply Sc)); exact HO_3.out) (by decide)) hk (fun _ h => h.2)) (fun _ h => h.1)); have n1_ := am (KeepBut.trans (by repeat (first | (with_reducible first | exact HK.out | apply Ke | apply Ka | apply Kb | apply Kc) | exact HK.out)) hk (.inl rfl)); have n2_ := am (hb); have n3_ := am (hi); clear HO_3; clear HK; clear HB; clear HI0; have HO_3 := n0_; have HK := n1_; have HB := n2_; have HI0 := n3_; clear n0_ n1_ n2_ n3_; (try clear hb); (try clear hb2); (try clear hk); (try clear hi); have p177 : 0 ≤ (t174 : Int) := of_decide_eq_true (by first | (with_reducible assumption) | assumption); have q177 : t174 < (x3_1.length : Int) := of_decide_eq_true (by first | (with_reducible assumption) | assumption); obtain ⟨ad177, A177_1, c177_1, A177_2, c177_2, e177, hx177_0, hx177_1, hx177_2, hx177_3, hx177_4, hl177_1, hi177_1, hl177_2, hi177_2⟩ := at_T32 (Kd.S_reads' HO_3.out).2.2 t174 p177 q177; cases e177; obtain ⟨ce177, hce177, hMe177, hcc177⟩ := Kd.S_get HO_3.out z32 t174 p177 (by first | exact q177 | exact of_decide_eq_true (by first | (with_reducible assumption) | assumption) | (have e_ := (Kd.S_reads' HO_3.out).1; omega)); obtain ⟨ve177_1, ve177_2, rfl, ge177_1, ge177_2⟩ := k32_openM hMe177; have hv177_1 := hcc177 1 _ rfl; rw [add_field _ _ 1 (by omega)] at hv177_1; replace hv177_1 := Option.some.inj (hv177_1.symm.trans hx177_1); rw [hv177_1] at ge177_1; have HL177_1 := am (show Kd.R Kd.string 9 _ _ _ _ ((rd_T32 x3_1 t174).f1) from ge177_1); clear hv177_1 ge177_1; have hv177_2 := hcc177 2 _ rfl; rw [add_field _ _ 2 (by omega)] at hv177_2; replace hv177_2 := Option.some.inj (hv177_2.symm.trans hx177_2); rw [hv177_2] at ge177_2; have HL177_2 := am (show Kd.R Kd.string 9 _ _ _ _ ((rd_T32 x3_1 t174).f2) from ge177_2); clear hv177_2 ge177_2; clear hcc177 hce177; have HR177_1 := am hi177_1; have HC177_1 := am hl177_1; clear hi177_1 hl177_1; have HR177_2 := am hi177_2; have HC177_2 := am hl177_2; clear hi177_2 hl177_2; replace p177 := eq_true p177; replace q177 := eq_true q177) | ((with_reducible refine gate_callee (f := 61) rfl ?_); refine goesL_ (some 94) rfl rfl Try.func61 (by kernel_rfl) rfl #[.pointer (some ⟨g, 0, none⟩), .int .i64 4] rfl (by (try simp only [List.map_toArray, List.map_cons, List.map_nil]); first | done | rfl | (simp only [List.length_drop, List.length_take]; rfl)) ?_; (with_reducible refine (spec_l1Below.calls g s0_0 t175 t176 4 t178 t179 t180 w0 _ ?side1 ?side2 A90.out).mono ?_); (case side1 => repeat (first | (with_reducible first | exact HI0.out | apply Ia | apply Ib | apply Ic | apply Ih | apply Ie) | exact HI0.out)); (case side2 => repeat (first | (with_reducible first | exact HB.out | apply Bb | apply Ba | apply Bc | refine Bd ?_ (IsS84.ge HI0.out)) | exact HB.out)); rintro e w133 ⟨rfl, hi, hb, hk⟩; refine ⟨_, rfl, ?_⟩; have n0_ := am (Kd.S_mono (Kd.S_keep (Ij (show IsS84 w0 _ g s0_0 t175 t176 from by repeat (first | (with_reducible first | exact HI0.out | apply Ia | apply Ib | apply Ic | apply Ih | apply Ie) | exact HI0.out)) (by (with_reducible repeat (first | apply Sa | apply Sb | apply Sc)); exact HO_3.out) (by decide)) hk (fun _ h => h.2)) (fun _ h => h.1)); have n1_ := am (Kd.R_mono (Kd.R_keep (Ig (show IsS84 w0 _ g s0_0 t175 t176 from by repeat (first | (with_reducible first | exact HI0.out | apply Ia | apply Ib | apply Ic | apply Ih | apply Ie) | exact HI0.out)) (by (with_reducible repeat (first | apply Ra | apply Rb | apply Rc)); exact HL177_1.out) (by decide)) hk (fun _ h => h.2)) (fun _ h => h.1)); have n2_ := am (Kd.R_mono (Kd.R_keep (Ig (show IsS84 w0 _ g s0_0 t175 t176 from by repeat (first | (with_reducible first | exact HI0.out | apply Ia | apply Ib | apply Ic | apply Ih | apply Ie) | exact HI0.out)) (by (with_reducible repeat (first | apply Ra | apply Rb | apply Rc)); exact HL177_2.out) (by decide)) hk (fun _ h => h.2)) (fun _ h => h.1)); have n3_ := am (KeepBut.trans (by repeat (first | (with_reducible first | exact HK.out | apply Ke | apply Ka | apply Kb | apply Kc) | exact HK.out)) hk (.inl rfl)); have n4_ := am (hb); have n5_ := am (hi); clear HO_3; clear HL177_1; clear HL177_2; clear HK; clear HB; clear HI0; have HO_3 := n0_; have HL177_1 := n1_; have HL177_2 := n2_; have HK := n3_; have HB := n4_; have HI0 := n5_; clear n0_ n1_ n2_ n3_ n4_ n5_; (try clear hb); (try clear hb2); (try clear hk); (try clear hi)))
             go_ret
             exact ⟨_, by first | rfl | (simp [errW_none, errW_some] <;> rfl) | (simp [*, errW_none, errW_some] <;> rfl), by (with_reducible repeat (first | apply Sa | apply Sb | apply Sc)); exact HO_3.out, by repeat (first | (with_reducible first | exact HI0.out | apply Ia | apply Ib | apply Ic | apply Ih | apply Ie) | exact HI0.out), by repeat (first | (with_reducible first | exact HB.out | apply Bb | apply Ba | apply Bc | refine Bd ?_ (IsS84.ge HI0.out)) | exact HB.out), by repeat (first | (with_reducible first | exact HK.out | apply Ke | apply Ka | apply Kb | apply Kc) | exact HK.out)⟩
        ·
         rw [if_neg c89] at H
         exact absurd H (by simp)
       ·
        rw [if_neg c88] at H
        exact absurd H (by simp)
      ·
       replace c86 := Bool.eq_false_iff.mpr c86
       subst c86
       have H1 : (some (x3_1, x1001_78, x1002_78)) = some (r1, r2, r3) := by rw [if_neg (show ¬ (false = true) by decide)] at H; exact H
       clear H
       have H := H1
       clear H1
       simp only [Option.some.injEq, Prod.mk.injEq] at H
       obtain ⟨rfl, rfl, rfl⟩ := H
       go_wp2
       go_ret
       exact ⟨_, by first | rfl | (simp [errW_none, errW_some] <;> rfl) | (simp [*, errW_none, errW_some] <;> rfl), by (with_reducible repeat (first | apply Sa | apply Sb | apply Sc)); exact HO_3.out, by repeat (first | (with_reducible first | exact HI0.out | apply Ia | apply Ib | apply Ic | apply Ih | apply Ie) | exact HI0.out), by repeat (first | (with_reducible first | exact HB.out | apply Bb | apply Ba | apply Bc | refine Bd ?_ (IsS84.ge HI0.out)) | exact HB.out), by repeat (first | (with_reducible first | exact HK.out | apply Ke | apply Ka | apply Kb | apply Kc) | exact HK.out)⟩
end Go.Proofs.Ytnjmhlhlmokjnaa.G
