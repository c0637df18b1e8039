/-
  Part 3 of the texts of this claim: GLawsToStringS, GLawsToUnit, GLawsToUnitS, GLawsSzStringS, GLawsSzUnit, GLawsSzUnitS, XExPure, XMarkUnits, XOpen, XExCalls, XFailPlain.
-/
import Derived.Deep.Slices
import Derived.Deep.Fields
import Derived.ChangeSame
import Derived.Lib.SmallJoins
import Derived.Test.YtnjmhlhlmokjnaaExP2
namespace Go.Proofs.Ytnjmhlhlmokjnaa.G
open Go.RowKit Go.Proofs.YtnjmhlhlmokjnaaW.PrintWords Go.Proofs.YtnjmhlhlmokjnaaW.PrintLast Go.Proofs.YtnjmhlhlmokjnaaW.PrintMore
attribute [local go_sem] max2_int min2_int max_two min_two max_three min_three max_four min_four
set_option linter.unusedVariables false
set_option linter.unusedSimpArgs false
def laws_toStringS.l0 : Nat → List ByteArray → List ByteArray → Int → Option (List ByteArray)
  | 0, _, _, _ => none
  | k + 1, x0, x3, x4 => if x4 < (x0.length : Int) then (if 0 ≤ x4 then (if x4 < (x3.length : Int) then (laws_toStringS.l0 k x0 (x3.set (x4 : Int).toNat (rdOf ByteArray.empty x0 x4)) (wrap64 (x4 + 1))) else (none)) else (none)) else (some x3)
def laws_toStringS.f (k : Nat) (l0 : List ByteArray) : Option (List ByteArray) := if 0 ≤ (l0.length : Int) then (if ((l0.length : Int) : Int).toNat ≤ 17592186044416 then (laws_toStringS.l0 k l0 (List.replicate ((l0.length : Int) : Int).toNat (⟨#[]⟩ : ByteArray)) 0) else (none)) else (none)
set_option maxHeartbeats 8000000 in
set_option maxRecDepth 100000 in
theorem laws_toStringS.calls (k : Nat) (A0 : Option Addr) (c0 : Nat) (l0 : List ByteArray) (r : List ByteArray) (w : World) (hr0 : Kd.C Kd.string w A0 l0.length l0) (hc0 : l0.length ≤ c0) (h : laws_toStringS.f k l0 = some r) :
    Calls Try.prog 21 #[.slice A0 l0.length c0] w fun e w' => ∃ v0_ : Value, e = .returned (v0_) ∧ Kd.R Kd.string 9 w' w.heap.size (fun _ => True) v0_ r ∧ Below w.heap.size w w' := by
  have HR0 := Aside0.mk hr0
  have HC0 := Aside0.mk hc0
  clear hr0 hc0
  have HB := Aside0.mk (Below.refl w.heap.size w)
  have H : (if 0 ≤ (l0.length : Int) then (if ((l0.length : Int) : Int).toNat ≤ 17592186044416 then (laws_toStringS.l0 k l0 (List.replicate ((l0.length : Int) : Int).toNat (⟨#[]⟩ : ByteArray)) 0) else (none)) else (none)) = some r := h
  clear h
  by_cases c2 : 0 ≤ (l0.length : Int)
  · rw [if_pos c2] at H
    have c2b0 := eq_true c2
    have c2b1 : decide (0 ≤ (l0.length : Int)) = true := decide_eq_true c2
    clear c2
    by_cases c3 : ((l0.length : Int) : Int).toNat ≤ 17592186044416
    · rw [if_pos c3] at H
      have c3b0 := eq_true c3
      have c3b1 : decide (((l0.length : Int) : Int).toNat ≤ 17592186044416) = true := decide_eq_true c3
      clear c3
      obtain ⟨y401, hy401⟩ : ∃ y_ : List ByteArray, y_ = (List.replicate ((l0.length : Int) : Int).toNat (⟨#[]⟩ : ByteArray)) := ⟨_, rfl⟩
      replace H : (laws_toStringS.l0 k l0 y401 0) = some r := by first | (rw [hy401]; with_reducible exact H) | (have H2_ := (Option.bind_some _ _).symm.trans H; rw [hy401]; with_reducible exact H2_) | (have H2_ := (Option.bind_some _ _).symm.trans H; with_reducible exact H2_) | with_reducible exact H | (rw [hy401]; exact H) | exact H
      have Ny401 := Aside0.mk hy401
      clear hy401
      have H' := Aside0.mk H
      clear H
      go_enter Try.func21, Try.ntmps21
      go_wp2_with (first | ((with_reducible refine gate_dst (N := 7) rfl ?_); refine Kd.R_make Kd.string _ 9 rfl (N := 7) rfl 25 _ _ rfl (l0.length : Int) rfl rfl Try.underlying25 (.string ⟨#[]⟩) 16 info9 rfl (by decide) (by omega) (⟨#[]⟩ : ByteArray) (ok := fun _ => True) (okp := fun _ => True) rfl (fun _ hk => hk) trivial (of_decide_eq_true (by first | (with_reducible assumption) | assumption)) (Nat.le_trans (Nat.mul_le_mul_right _ (of_decide_eq_true (by first | (with_reducible assumption) | assumption) : (l0.length : Int).toNat ≤ 17592186044416)) (by omega)) (Below.refl _ _) (Nat.le_refl _) ?_; intro v402 w4 ho5 hb hg_ hnew_; clear hg_ hnew_; (first | rw [← Ny401.out] at ho5 | (simp only [Int.reduceToNat] at ho5; rw [← Ny401.out] at ho5)); have n0_ := Aside0.mk (Kd.R_lower ho5 (below_size (by repeat (first | (with_reducible first | exact HB.out | apply below_alloc | apply pw_below_drewN | apply below_drew1) | exact HB.out)))); have n1_ := Aside0.mk (below_step (by repeat (first | (with_reducible first | exact HB.out | apply below_alloc | apply pw_below_drewN | apply below_drew1) | exact HB.out)) hb); clear HB; have HO403 := n0_; have HB := n1_; clear n0_ n1_; clear hb ho5))
      go_loopg [4] k (fun kq v4 w' => ∃ (x3_1 : List ByteArray) (x4_1 : Int), v4 = .int .i64 x4_1 ∧ Aside0 (laws_toStringS.l0 kq l0 x3_1 x4_1 = some r) ∧ Aside0 (kq ≤ k) ∧ Aside0 (Kd.R Kd.string 9 w' w.heap.size (fun _ => True) v402 x3_1) ∧ Aside0 (Below w.heap.size w w'))
      case atStart => exact ⟨(y401), (0), (by first | rfl | (simp; done) | (simp [*]; done)), H', ⟨Nat.le_refl _⟩, ⟨by (with_reducible repeat (first | apply Kd.R_alloc | apply Kd.R_drewN | apply Kd.R_drew)); exact HO403.out⟩, ⟨by repeat (first | (with_reducible first | exact HB.out | apply below_alloc | apply pw_below_drewN | apply below_drew1) | exact HB.out)⟩⟩
      case round =>
        clear H'
        try clear c2
        try clear c2b0
        try clear c2b1
        try clear p2
        try clear c3
        try clear c3b0
        try clear c3b1
        obtain ⟨x3_1, x4_1, rfl, HA, HK1, HO_3, HB⟩ := hrel
        cases gk with
        | zero => exact absurd HA.out (by simp [laws_toStringS.l0])
        | succ k1 =>
          have H := HA.out
          clear HA
          simp only [laws_toStringS.l0] at H
          by_cases c6 : x4_1 < (l0.length : Int)
          · rw [if_pos c6] at H
            have c6b0 : decide (x4_1 < (l0.length : Int)) = true := decide_eq_true c6
            clear c6
            by_cases c7 : 0 ≤ x4_1
            · rw [if_pos c7] at H
              have c7b0 : decide (0 ≤ x4_1) = true := decide_eq_true c7
              clear c7
              by_cases c8 : x4_1 < (x3_1.length : Int)
              · rw [if_pos c8] at H
                have c8b0 : decide (x4_1 < (x3_1.length : Int)) = true := decide_eq_true c8
                clear c8
                obtain ⟨y405, hy405⟩ : ∃ y_ : List ByteArray, y_ = (x3_1.set (x4_1 : Int).toNat (rdOf ByteArray.empty l0 x4_1)) := ⟨_, rfl⟩
                replace H : (laws_toStringS.l0 k1 l0 y405 (wrap64 (x4_1 + 1))) = some r := by first | (rw [hy405]; with_reducible exact H) | (have H2_ := (Option.bind_some _ _).symm.trans H; rw [hy405]; with_reducible exact H2_) | (have H2_ := (Option.bind_some _ _).symm.trans H; with_reducible exact H2_) | with_reducible exact H | (rw [hy405]; exact H) | exact H
                have Ny405 := Aside0.mk hy405
                clear hy405
                have H' := Aside0.mk H
                clear H
                have p404 : 0 ≤ (x4_1 : Int) := of_decide_eq_true (by first | (with_reducible assumption) | assumption)
                have q404 : x4_1 < (l0.length : Int) := of_decide_eq_true (by first | (with_reducible assumption) | assumption)
                obtain ⟨ad404, e404, hx404_0⟩ := Kd.at_string HR0.out x4_1 p404 q404
                cases e404
                replace hx404_0 := (HB.out.cell (World.block_lt_of_cell? w _ hx404_0)).trans hx404_0
                replace p404 := eq_true p404
                replace q404 := eq_true q404
                have p9 : 0 ≤ (x4_1 : Int) := of_decide_eq_true (by first | (with_reducible assumption) | assumption)
                have q9 : (x4_1 : Int) < ((x3_1.length : Int) : Int) := of_decide_eq_true (by first | (with_reducible assumption) | assumption)
                obtain ⟨go9, co9, eo9, gb9, gl9, cl9, HG9⟩ := Kd.R_form HO_3.out (by omega)
                (first | cases eo9 | (injection eo9 with ea_ en_ ec_; (first | subst ea_ | (injection ea_ with ea_; subst ea_)); subst ec_; clear en_))
                have GB9 := Aside0.mk gb9
                have GG9 := Aside0.mk HG9
                clear gb9 gl9 HG9
                obtain ⟨hx9_0, hf9_0⟩ := Kd.R_celln (⟨#[]⟩ : ByteArray) HO_3.out (x4_1 : Int) p9 q9
                replace p9 := eq_true p9
                replace q9 := eq_true q9
                have HP10 := Kd.R_putg HO_3.out (x4_1 : Int) (rdOf ByteArray.empty l0 x4_1)
                go_wp2_with (first | ((with_reducible refine gate_store (t := 9) (p := 20) rfl ?_); refine store_event (t := 9) (p := 20) (v := ?vo_w11) (w1 := (wr.setCell ⟨go9, (x4_1 : Int).toNat, none⟩ (.string (rdOf ByteArray.empty l0 x4_1)))) ?hg ?ho ?hn ?hr ?_; (case ho => rfl); (case hg => rfl); (case hn => rfl); (case hr => first | (go_simp; done) | (go_simp; rfl)); intro w11 hw; have hg : wr.grownBy w11 (some go9) := (by rw [hw]; exact HP10.2); have hp_ : Kd.R Kd.string 9 w11 w.heap.size (fun _ => True) (.slice (some ⟨go9, 0, none⟩) x3_1.length co9) y405 := (by rw [hw, Ny405.out]; exact HP10.1); clear HP10; have n0_ := Aside0.mk (hp_); have n1_ := Aside0.mk ((by rw [hw]; exact below_set (HB.out) GB9.out : Below w.heap.size w w11)); clear HO_3; clear HB; have HO_3 := n0_; have HB := n1_; clear n0_ n1_; clear hg hw hp_))
                go_roundg k1
                case measure => have := HK1.out; omega
                case rel => exact ⟨(y405), (wrap64 (x4_1 + 1)), (by first | rfl | (simp; done) | (simp [*]; done)), H', ⟨by have := HK1.out; omega⟩, ⟨by (with_reducible repeat (first | apply Kd.R_alloc | apply Kd.R_drewN | apply Kd.R_drew)); exact HO_3.out⟩, ⟨by repeat (first | (with_reducible first | exact HB.out | apply below_alloc | apply pw_below_drewN | apply below_drew1) | exact HB.out)⟩⟩
              · rw [if_neg c8] at H
                exact absurd H (by simp)
            · rw [if_neg c7] at H
              exact absurd H (by simp)
          · rw [if_neg c6] at H
            have c6b0 : decide (x4_1 < (l0.length : Int)) = false := decide_eq_false c6
            clear c6
            obtain rfl := Option.some.inj H
            go_wp2
            go_ret
            exact ⟨_, by first | rfl | (simp [errW_none, errW_some] <;> rfl) | (simp [*, errW_none, errW_some] <;> rfl), by (with_reducible repeat (first | apply Kd.R_alloc | apply Kd.R_drewN | apply Kd.R_drew)); exact HO_3.out, by repeat (first | (with_reducible first | exact HB.out | apply below_alloc | apply pw_below_drewN | apply below_drew1) | exact HB.out)⟩
    · rw [if_neg c3] at H
      exact absurd H (by simp)
  · rw [if_neg c2] at H
    exact absurd H (by simp)
end Go.Proofs.Ytnjmhlhlmokjnaa.G
namespace Go.Proofs.Ytnjmhlhlmokjnaa.G
open Go.RowKit Go.Proofs.YtnjmhlhlmokjnaaW.PrintWords Go.Proofs.YtnjmhlhlmokjnaaW.PrintLast Go.Proofs.YtnjmhlhlmokjnaaW.PrintMore
attribute [local go_sem] max2_int min2_int max_two min_two max_three min_three max_four min_four
set_option linter.unusedVariables false
set_option linter.unusedSimpArgs false
def laws_toUnit.f (k : Nat) (a0_0 : ByteArray) (l0_1 : List ByteArray) (l0_2 : List ByteArray) (a0_3 : ByteArray) (a0_4 : Bool) : Option (ByteArray × List ByteArray × List ByteArray × ByteArray × Bool) := (laws_toStringS.f k l0_1).bind fun t409 => ((laws_toStringS.f k l0_2).bind fun t412 => (some (a0_0, t409, t412, a0_3, a0_4)))
set_option maxHeartbeats 8000000 in
set_option maxRecDepth 100000 in
theorem laws_toUnit.calls (k : Nat) (a0_0 : ByteArray) (A0_1 : Option Addr) (c0_1 : Nat) (l0_1 : List ByteArray) (A0_2 : Option Addr) (c0_2 : Nat) (l0_2 : List ByteArray) (a0_3 : ByteArray) (a0_4 : Bool) (r1 : ByteArray) (r2 : List ByteArray) (r3 : List ByteArray) (r4 : ByteArray) (r5 : Bool) (w : World) (hr0_1 : Kd.C Kd.string w A0_1 l0_1.length l0_1) (hc0_1 : l0_1.length ≤ c0_1) (hr0_2 : Kd.C Kd.string w A0_2 l0_2.length l0_2) (hc0_2 : l0_2.length ≤ c0_2) (h : laws_toUnit.f k a0_0 l0_1 l0_2 a0_3 a0_4 = some (r1, r2, r3, r4, r5)) :
    Calls Try.prog 55 #[.agg #[.string a0_0, .slice A0_1 l0_1.length c0_1, .slice A0_2 l0_2.length c0_2, .string a0_3, .bool a0_4]] w fun e w' => ∃ v1_ v2_ : Value, e = .returned (.agg #[.string r1, v1_, v2_, .string r4, .bool r5]) ∧ Kd.R Kd.string 9 w' w.heap.size (fun k_ => some k_ ≠ (v2_ : Value).ownBlock) v1_ r2 ∧ Kd.R Kd.string 9 w' w.heap.size (fun k_ => some k_ ≠ (v1_ : Value).ownBlock) v2_ r3 ∧ Below w.heap.size w w' := by
  have hu70 := Try.underlying70
  have hu32 := Try.underlying32
  have HR0_1 := Aside0.mk hr0_1
  have HC0_1 := Aside0.mk hc0_1
  clear hr0_1 hc0_1
  have HR0_2 := Aside0.mk hr0_2
  have HC0_2 := Aside0.mk hc0_2
  clear hr0_2 hc0_2
  have HB := Aside0.mk (Below.refl w.heap.size w)
  have H : ((laws_toStringS.f k l0_1).bind fun t409 => ((laws_toStringS.f k l0_2).bind fun t412 => (some (a0_0, t409, t412, a0_3, a0_4)))) = some (r1, r2, r3, r4, r5) := h
  clear h
  replace H := Option.bind_eq_some_iff.mp H
  obtain ⟨t409, A20, H⟩ := H
  replace H : ((laws_toStringS.f k l0_2).bind fun t412 => (some (a0_0, t409, t412, a0_3, a0_4))) = some (r1, r2, r3, r4, r5) := H
  have A2 := Aside0.mk A20
  clear A20
  replace H := Option.bind_eq_some_iff.mp H
  obtain ⟨t412, A30, H⟩ := H
  replace H : (some (a0_0, t409, t412, a0_3, a0_4)) = some (r1, r2, r3, r4, r5) := H
  have A3 := Aside0.mk A30
  clear A30
  simp only [Option.some.injEq, Prod.mk.injEq] at H
  obtain ⟨rfl, rfl, rfl, rfl, rfl⟩ := H
  go_enter Try.func55, Try.ntmps55
  go_wp2_with (first | ((with_reducible refine gate_dst (N := 1) rfl ?_); refine box_event ?hg (N := 1) ?hd (cs := #[.string a0_0, .slice A0_1 l0_1.length c0_1, .slice A0_2 l0_2.length c0_2, .string a0_3, .bool a0_4]) (t := 70) ?hr ?_; (case hd => rfl); (case hg => rfl); (case hr => first | (go_simp; done) | (go_simp; rfl)); intro gb406 hg w4 hbox hb; have n0_ := Aside0.mk (below_step (by repeat (first | (with_reducible first | exact HB.out | apply below_alloc | apply pw_below_drewN | apply below_drew1) | exact HB.out)) hb); have n1_ := Aside0.mk (hbox); have n2_ := Aside0.mk ((by rw [hg]; exact (below_size (by repeat (first | (with_reducible first | exact HB.out | apply below_alloc | apply pw_below_drewN | apply below_drew1) | exact HB.out))) : w.heap.size ≤ gb406)); have n3_ := Aside0.mk ((by rw [hg]; exact (below_size (by repeat (first | (with_reducible first | exact HB.out | apply below_alloc | apply pw_below_drewN | apply below_drew1) | exact HB.out))) : w.heap.size ≤ gb406)); clear HB; have HB := n0_; have BK406 := n1_; have GW406 := n2_; have GE406 := n3_; clear n0_ n1_ n2_ n3_; clear hb hbox hg) | ((with_reducible refine gate_dst (N := 2) rfl ?_); refine box_event ?hg (N := 2) ?hd (cs := #[.string (⟨#[]⟩ : ByteArray), .slice none 0 0, .slice none 0 0, .string (⟨#[]⟩ : ByteArray), .bool false]) (t := 32) ?hr ?_; (case hd => rfl); (case hg => rfl); (case hr => first | (go_simp; done) | (go_simp; rfl)); intro gb407 hg w5 hbox hb; have n0_ := Aside0.mk (blk_below (g := gb406) (o := .cells #[.string a0_0, .slice A0_1 l0_1.length c0_1, .slice A0_2 l0_2.length c0_2, .string a0_3, .bool a0_4] 70 (0, 0)) (by (with_reducible repeat (first | refine blk_drewN ?_ _ | refine blk_drew ?_ | refine blk_alloc ?_ _)); exact BK406.out) hb); have n1_ := Aside0.mk (below_step (by repeat (first | (with_reducible first | exact HB.out | apply below_alloc | apply pw_below_drewN | apply below_drew1 | refine below_set ?_ GE406.out) | exact HB.out)) hb); have n2_ := Aside0.mk (hbox); have n3_ := Aside0.mk ((by rw [hg]; exact (below_size (by repeat (first | (with_reducible first | exact HB.out | apply below_alloc | apply pw_below_drewN | apply below_drew1 | refine below_set ?_ GE406.out) | exact HB.out))) : w.heap.size ≤ gb407)); have n4_ := Aside0.mk ((by rw [hg]; exact (below_size (by repeat (first | (with_reducible first | exact HB.out | apply below_alloc | apply pw_below_drewN | apply below_drew1 | refine below_set ?_ GE406.out) | exact HB.out))) : w.heap.size ≤ gb407)); have n5_ := Aside0.mk ((by rw [hg]; exact Nat.ne_of_lt (blk_lt (g := gb406) (o := .cells #[.string a0_0, .slice A0_1 l0_1.length c0_1, .slice A0_2 l0_2.length c0_2, .string a0_3, .bool a0_4] 70 (0, 0)) (by (with_reducible repeat (first | refine blk_drewN ?_ _ | refine blk_drew ?_ | refine blk_alloc ?_ _)); exact BK406.out)) : gb406 ≠ gb407)); have n6_ := Aside0.mk ((by rw [hg]; exact Nat.ne_of_gt (blk_lt (g := gb406) (o := .cells #[.string a0_0, .slice A0_1 l0_1.length c0_1, .slice A0_2 l0_2.length c0_2, .string a0_3, .bool a0_4] 70 (0, 0)) (by (with_reducible repeat (first | refine blk_drewN ?_ _ | refine blk_drew ?_ | refine blk_alloc ?_ _)); exact BK406.out)) : gb407 ≠ gb406)); clear BK406; clear HB; have BK406 := n0_; have HB := n1_; have BK407 := n2_; have GW407 := n3_; have GE407 := n4_; have NB406_407 := n5_; have NB407_406 := n6_; clear n0_ n1_ n2_ n3_ n4_ n5_ n6_; clear hb hbox hg) | ((with_reducible refine gate_dst (N := 3) rfl ?_); refine box_event ?hg (N := 3) ?hd (cs := #[.string (⟨#[]⟩ : ByteArray), .slice none 0 0, .slice none 0 0, .string (⟨#[]⟩ : ByteArray), .bool false]) (t := 32) ?hr ?_; (case hd => rfl); (case hg => rfl); (case hr => first | (go_simp; done) | (go_simp; rfl)); intro gb408 hg w6 hbox hb; have n0_ := Aside0.mk (blk_below (g := gb406) (o := .cells #[.string a0_0, .slice A0_1 l0_1.length c0_1, .slice A0_2 l0_2.length c0_2, .string a0_3, .bool a0_4] 70 (0, 0)) (by (with_reducible repeat (first | refine blk_drewN ?_ _ | refine blk_drew ?_ | refine blk_alloc ?_ _)); exact BK406.out) hb); have n1_ := Aside0.mk (blk_below (g := gb407) (o := .cells #[.string (⟨#[]⟩ : ByteArray), .slice none 0 0, .slice none 0 0, .string (⟨#[]⟩ : ByteArray), .bool false] 32 (0, 0)) (by (with_reducible repeat (first | refine blk_drewN ?_ _ | refine blk_drew ?_ | refine blk_alloc ?_ _)); exact BK407.out) hb); have n2_ := Aside0.mk (below_step (by repeat (first | (with_reducible first | exact HB.out | apply below_alloc | apply pw_below_drewN | apply below_drew1 | refine below_set ?_ GE406.out | refine below_set ?_ GE407.out) | exact HB.out)) hb); have n3_ := Aside0.mk (hbox); have n4_ := Aside0.mk ((by rw [hg]; exact (below_size (by repeat (first | (with_reducible first | exact HB.out | apply below_alloc | apply pw_below_drewN | apply below_drew1 | refine below_set ?_ GE406.out | refine below_set ?_ GE407.out) | exact HB.out))) : w.heap.size ≤ gb408)); have n5_ := Aside0.mk ((by rw [hg]; exact (below_size (by repeat (first | (with_reducible first | exact HB.out | apply below_alloc | apply pw_below_drewN | apply below_drew1 | refine below_set ?_ GE406.out | refine below_set ?_ GE407.out) | exact HB.out))) : w.heap.size ≤ gb408)); have n6_ := Aside0.mk ((by rw [hg]; exact Nat.ne_of_lt (blk_lt (g := gb406) (o := .cells #[.string a0_0, .slice A0_1 l0_1.length c0_1, .slice A0_2 l0_2.length c0_2, .string a0_3, .bool a0_4] 70 (0, 0)) (by (with_reducible repeat (first | refine blk_drewN ?_ _ | refine blk_drew ?_ | refine blk_alloc ?_ _)); exact BK406.out)) : gb406 ≠ gb408)); have n7_ := Aside0.mk ((by rw [hg]; exact Nat.ne_of_gt (blk_lt (g := gb406) (o := .cells #[.string a0_0, .slice A0_1 l0_1.length c0_1, .slice A0_2 l0_2.length c0_2, .string a0_3, .bool a0_4] 70 (0, 0)) (by (with_reducible repeat (first | refine blk_drewN ?_ _ | refine blk_drew ?_ | refine blk_alloc ?_ _)); exact BK406.out)) : gb408 ≠ gb406)); have n8_ := Aside0.mk ((by rw [hg]; exact Nat.ne_of_lt (blk_lt (g := gb407) (o := .cells #[.string (⟨#[]⟩ : ByteArray), .slice none 0 0, .slice none 0 0, .string (⟨#[]⟩ : ByteArray), .bool false] 32 (0, 0)) (by (with_reducible repeat (first | refine blk_drewN ?_ _ | refine blk_drew ?_ | refine blk_alloc ?_ _)); exact BK407.out)) : gb407 ≠ gb408)); have n9_ := Aside0.mk ((by rw [hg]; exact Nat.ne_of_gt (blk_lt (g := gb407) (o := .cells #[.string (⟨#[]⟩ : ByteArray), .slice none 0 0, .slice none 0 0, .string (⟨#[]⟩ : ByteArray), .bool false] 32 (0, 0)) (by (with_reducible repeat (first | refine blk_drewN ?_ _ | refine blk_drew ?_ | refine blk_alloc ?_ _)); exact BK407.out)) : gb408 ≠ gb407)); clear BK406; clear BK407; clear HB; have BK406 := n0_; have BK407 := n1_; have HB := n2_; have BK408 := n3_; have GW408 := n4_; have GE408 := n5_; have NB406_408 := n6_; have NB408_406 := n7_; have NB407_408 := n8_; have NB408_407 := n9_; clear n0_ n1_ n2_ n3_ n4_ n5_ n6_ n7_ n8_ n9_; clear hb hbox hg; have hnb7 := NB406_407.out; have hnc7 := NB407_406.out; have hnb8 := NB406_408.out; have hnc8 := NB408_406.out; have hcz9_0 : w6.cell? ⟨gb406, 0, none⟩ = some (.string a0_0) := (blk_cell BK406.out 0).trans rfl; have hcz9_1 : w6.cell? ⟨gb406, 1, none⟩ = some (.slice A0_1 l0_1.length c0_1) := (blk_cell BK406.out 1).trans rfl; have hcz9_2 : w6.cell? ⟨gb406, 2, none⟩ = some (.slice A0_2 l0_2.length c0_2) := (blk_cell BK406.out 2).trans rfl; have hcz9_3 : w6.cell? ⟨gb406, 3, none⟩ = some (.string a0_3) := (blk_cell BK406.out 3).trans rfl; have hcz9_4 : w6.cell? ⟨gb406, 4, none⟩ = some (.bool a0_4) := (blk_cell BK406.out 4).trans rfl; have hfz9_0 := blk_frozen BK406.out 0; have hfz9_1 := blk_frozen BK406.out 1; have hfz9_2 := blk_frozen BK406.out 2; have hfz9_3 := blk_frozen BK406.out 3; have hfz9_4 := blk_frozen BK406.out 4; have hnb10 := NB408_407.out; have hnc10 := NB407_408.out; have hcz11_0 : w6.cell? ⟨gb408, 0, none⟩ = some (.string (⟨#[]⟩ : ByteArray)) := (blk_cell BK408.out 0).trans rfl; have hcz11_1 : w6.cell? ⟨gb408, 1, none⟩ = some (.slice none 0 0) := (blk_cell BK408.out 1).trans rfl; have hcz11_2 : w6.cell? ⟨gb408, 2, none⟩ = some (.slice none 0 0) := (blk_cell BK408.out 2).trans rfl; have hcz11_3 : w6.cell? ⟨gb408, 3, none⟩ = some (.string (⟨#[]⟩ : ByteArray)) := (blk_cell BK408.out 3).trans rfl; have hcz11_4 : w6.cell? ⟨gb408, 4, none⟩ = some (.bool false) := (blk_cell BK408.out 4).trans rfl; have hfz11_0 := blk_frozen BK408.out 0; have hfz11_1 := blk_frozen BK408.out 1; have hfz11_2 := blk_frozen BK408.out 2; have hfz11_3 := blk_frozen BK408.out 3; have hfz11_4 := blk_frozen BK408.out 4) | ((with_reducible refine gate_callee (f := 21) rfl ?_); refine goesL_ (some 9) rfl rfl Try.func21 (by kernel_rfl) rfl #[.slice A0_1 l0_1.length c0_1] rfl (by (try simp only [List.map_toArray, List.map_cons, List.map_nil]); first | done | rfl | (simp only [List.length_drop, List.length_take]; rfl)) ?_; (with_reducible refine (laws_toStringS.calls k _ _ l0_1 t409 _ ?side1 ?side2 A2.out).mono ?_); (case side1 => exact Kd.C_below HR0_1.out (by repeat (first | (with_reducible first | exact HB.out | apply below_alloc | apply pw_below_drewN | apply below_drew1 | refine below_set ?_ GE406.out | refine below_set ?_ GE407.out | refine below_set ?_ GE408.out) | exact HB.out))); (case side2 => exact HC0_1.out); rintro e w12 ⟨v410, rfl, ho0, hb⟩; refine ⟨_, rfl, ?_⟩; have n0_ := Aside0.mk (Kd.R_lower ho0 (below_size (by repeat (first | (with_reducible first | exact HB.out | apply below_alloc | apply pw_below_drewN | apply below_drew1 | refine below_set ?_ GE406.out | refine below_set ?_ GE407.out | refine below_set ?_ GE408.out) | exact HB.out)))); have n1_ := Aside0.mk (blk_below (g := gb406) (o := .cells #[.string a0_0, .slice A0_1 l0_1.length c0_1, .slice A0_2 l0_2.length c0_2, .string a0_3, .bool a0_4] 70 (0, 0)) (by (with_reducible repeat (first | refine blk_drewN ?_ _ | refine blk_drew ?_ | refine blk_alloc ?_ _)); refine blk_far ?_ NB406_408.out _; (with_reducible repeat (first | refine blk_drewN ?_ _ | refine blk_drew ?_ | refine blk_alloc ?_ _)); exact BK406.out) hb); have n2_ := Aside0.mk (blk_below (g := gb407) (o := .cells #[.string (⟨#[]⟩ : ByteArray), .slice none 0 0, .slice none 0 0, .string (⟨#[]⟩ : ByteArray), .bool false] 32 (0, 0)) (by (with_reducible repeat (first | refine blk_drewN ?_ _ | refine blk_drew ?_ | refine blk_alloc ?_ _)); refine blk_far ?_ NB407_408.out _; (with_reducible repeat (first | refine blk_drewN ?_ _ | refine blk_drew ?_ | refine blk_alloc ?_ _)); exact BK407.out) hb); have n3_ := Aside0.mk (blk_below (g := gb408) (o := .cells #[.string a0_0, .slice none 0 0, .slice none 0 0, .string (⟨#[]⟩ : ByteArray), .bool false] 32 (0, 0)) (by (with_reducible repeat (first | refine blk_drewN ?_ _ | refine blk_drew ?_ | refine blk_alloc ?_ _)); refine blk_put (cs := #[.string (⟨#[]⟩ : ByteArray), .slice none 0 0, .slice none 0 0, .string (⟨#[]⟩ : ByteArray), .bool false]) ?_ 0 _ rfl; (with_reducible repeat (first | refine blk_drewN ?_ _ | refine blk_drew ?_ | refine blk_alloc ?_ _)); exact BK408.out) hb); have n4_ := Aside0.mk (below_step (by repeat (first | (with_reducible first | exact HB.out | apply below_alloc | apply pw_below_drewN | apply below_drew1 | refine below_set ?_ GE406.out | refine below_set ?_ GE407.out | refine below_set ?_ GE408.out) | exact HB.out)) hb); clear BK406; clear BK407; clear BK408; clear HB; have HO411 := n0_; have BK406 := n1_; have BK407 := n2_; have BK408 := n3_; have HB := n4_; clear n0_ n1_ n2_ n3_ n4_; (try clear hb); (try clear hb2); (try clear hk); (try clear hi); (try clear ho0); obtain ⟨Ao13, co13, eo13⟩ := Kd.R_slice HO411.out; subst eo13; have hcz14_0 : w12.cell? ⟨gb408, 0, none⟩ = some (.string a0_0) := (blk_cell BK408.out 0).trans rfl; have hcz14_1 : w12.cell? ⟨gb408, 1, none⟩ = some (.slice none 0 0) := (blk_cell BK408.out 1).trans rfl; have hcz14_2 : w12.cell? ⟨gb408, 2, none⟩ = some (.slice none 0 0) := (blk_cell BK408.out 2).trans rfl; have hcz14_3 : w12.cell? ⟨gb408, 3, none⟩ = some (.string (⟨#[]⟩ : ByteArray)) := (blk_cell BK408.out 3).trans rfl; have hcz14_4 : w12.cell? ⟨gb408, 4, none⟩ = some (.bool false) := (blk_cell BK408.out 4).trans rfl; have hfz14_0 := blk_frozen BK408.out 0; have hfz14_1 := blk_frozen BK408.out 1; have hfz14_2 := blk_frozen BK408.out 2; have hfz14_3 := blk_frozen BK408.out 3; have hfz14_4 := blk_frozen BK408.out 4; have hcz15_0 : w12.cell? ⟨gb406, 0, none⟩ = some (.string a0_0) := (blk_cell BK406.out 0).trans rfl; have hcz15_1 : w12.cell? ⟨gb406, 1, none⟩ = some (.slice A0_1 l0_1.length c0_1) := (blk_cell BK406.out 1).trans rfl; have hcz15_2 : w12.cell? ⟨gb406, 2, none⟩ = some (.slice A0_2 l0_2.length c0_2) := (blk_cell BK406.out 2).trans rfl; have hcz15_3 : w12.cell? ⟨gb406, 3, none⟩ = some (.string a0_3) := (blk_cell BK406.out 3).trans rfl; have hcz15_4 : w12.cell? ⟨gb406, 4, none⟩ = some (.bool a0_4) := (blk_cell BK406.out 4).trans rfl; have hfz15_0 := blk_frozen BK406.out 0; have hfz15_1 := blk_frozen BK406.out 1; have hfz15_2 := blk_frozen BK406.out 2; have hfz15_3 := blk_frozen BK406.out 3; have hfz15_4 := blk_frozen BK406.out 4) | ((with_reducible refine gate_callee (f := 21) rfl ?_); refine goesL_ (some 13) rfl rfl Try.func21 (by kernel_rfl) rfl #[.slice A0_2 l0_2.length c0_2] rfl (by (try simp only [List.map_toArray, List.map_cons, List.map_nil]); first | done | rfl | (simp only [List.length_drop, List.length_take]; rfl)) ?_; (with_reducible refine (laws_toStringS.calls k _ _ l0_2 t412 _ ?side1 ?side2 A3.out).mono ?_); (case side1 => exact Kd.C_below HR0_2.out (by repeat (first | (with_reducible first | exact HB.out | apply below_alloc | apply pw_below_drewN | apply below_drew1 | refine below_set ?_ GE406.out | refine below_set ?_ GE407.out | refine below_set ?_ GE408.out) | exact HB.out))); (case side2 => exact HC0_2.out); rintro e w16 ⟨v413, rfl, ho0, hb⟩; refine ⟨_, rfl, ?_⟩; have n0_ := Aside0.mk (Kd.R_elder' (by (with_reducible repeat (first | apply Kd.R_alloc | apply Kd.R_drewN | apply Kd.R_drew)); exact (Kd.R_mono (Kd.R_far (p := ⟨gb408, 1, none⟩) (Kd.R_types HO411.out BK408.out (by decide)) (fun _ hk => hk.2) (.slice Ao13 t409.length co13)) (fun _ h_ => h_.1))) (Kd.R_base ho0) hb); have n1_ := Aside0.mk (Kd.R_lower (Kd.R_new' ho0 (Kd.R_lt (by (with_reducible repeat (first | apply Kd.R_alloc | apply Kd.R_drewN | apply Kd.R_drew)); exact (Kd.R_mono (Kd.R_far (p := ⟨gb408, 1, none⟩) (Kd.R_types HO411.out BK408.out (by decide)) (fun _ hk => hk.2) (.slice Ao13 t409.length co13)) (fun _ h_ => h_.1))))) (below_size (by repeat (first | (with_reducible first | exact HB.out | apply below_alloc | apply pw_below_drewN | apply below_drew1 | refine below_set ?_ GE406.out | refine below_set ?_ GE407.out | refine below_set ?_ GE408.out) | exact HB.out)))); have n2_ := Aside0.mk (blk_below (g := gb406) (o := .cells #[.string a0_0, .slice A0_1 l0_1.length c0_1, .slice A0_2 l0_2.length c0_2, .string a0_3, .bool a0_4] 70 (0, 0)) (by (with_reducible repeat (first | refine blk_drewN ?_ _ | refine blk_drew ?_ | refine blk_alloc ?_ _)); refine blk_far ?_ NB406_408.out _; (with_reducible repeat (first | refine blk_drewN ?_ _ | refine blk_drew ?_ | refine blk_alloc ?_ _)); exact BK406.out) hb); have n3_ := Aside0.mk (blk_below (g := gb407) (o := .cells #[.string (⟨#[]⟩ : ByteArray), .slice none 0 0, .slice none 0 0, .string (⟨#[]⟩ : ByteArray), .bool false] 32 (0, 0)) (by (with_reducible repeat (first | refine blk_drewN ?_ _ | refine blk_drew ?_ | refine blk_alloc ?_ _)); refine blk_far ?_ NB407_408.out _; (with_reducible repeat (first | refine blk_drewN ?_ _ | refine blk_drew ?_ | refine blk_alloc ?_ _)); exact BK407.out) hb); have n4_ := Aside0.mk (blk_below (g := gb408) (o := .cells #[.string a0_0, .slice Ao13 t409.length co13, .slice none 0 0, .string (⟨#[]⟩ : ByteArray), .bool false] 32 (0, 0)) (by (with_reducible repeat (first | refine blk_drewN ?_ _ | refine blk_drew ?_ | refine blk_alloc ?_ _)); refine blk_put (cs := #[.string a0_0, .slice none 0 0, .slice none 0 0, .string (⟨#[]⟩ : ByteArray), .bool false]) ?_ 1 _ rfl; (with_reducible repeat (first | refine blk_drewN ?_ _ | refine blk_drew ?_ | refine blk_alloc ?_ _)); exact BK408.out) hb); have n5_ := Aside0.mk (below_step (by repeat (first | (with_reducible first | exact HB.out | apply below_alloc | apply pw_below_drewN | apply below_drew1 | refine below_set ?_ GE406.out | refine below_set ?_ GE407.out | refine below_set ?_ GE408.out) | exact HB.out)) hb); clear HO411; clear BK406; clear BK407; clear BK408; clear HB; have HO411 := n0_; have HO414 := n1_; have BK406 := n2_; have BK407 := n3_; have BK408 := n4_; have HB := n5_; clear n0_ n1_ n2_ n3_ n4_ n5_; (try clear hb); (try clear hb2); (try clear hk); (try clear hi); (try clear ho0); obtain ⟨Ao17, co17, eo17⟩ := Kd.R_slice HO414.out; subst eo17; have hcz18_0 : w16.cell? ⟨gb408, 0, none⟩ = some (.string a0_0) := (blk_cell BK408.out 0).trans rfl; have hcz18_1 : w16.cell? ⟨gb408, 1, none⟩ = some (.slice Ao13 t409.length co13) := (blk_cell BK408.out 1).trans rfl; have hcz18_2 : w16.cell? ⟨gb408, 2, none⟩ = some (.slice none 0 0) := (blk_cell BK408.out 2).trans rfl; have hcz18_3 : w16.cell? ⟨gb408, 3, none⟩ = some (.string (⟨#[]⟩ : ByteArray)) := (blk_cell BK408.out 3).trans rfl; have hcz18_4 : w16.cell? ⟨gb408, 4, none⟩ = some (.bool false) := (blk_cell BK408.out 4).trans rfl; have hfz18_0 := blk_frozen BK408.out 0; have hfz18_1 := blk_frozen BK408.out 1; have hfz18_2 := blk_frozen BK408.out 2; have hfz18_3 := blk_frozen BK408.out 3; have hfz18_4 := blk_frozen BK408.out 4; have hcz19_0 : w16.cell? ⟨gb406, 0, none⟩ = some (.string a0_0) := (blk_cell BK406.out 0).trans rfl; have hcz19_1 : w16.cell? ⟨gb406, 1, none⟩ = some (.slice A0_1 l0_1.length c0_1) := (blk_cell BK406.out 1).trans rfl; have hcz19_2 : w16.cell? ⟨gb406, 2, none⟩ = some (.slice A0_2 l0_2.length c0_2) := (blk_cell BK406.out 2).trans rfl; have hcz19_3 : w16.cell? ⟨gb406, 3, none⟩ = some (.string a0_3) := (blk_cell BK406.out 3).trans rfl; have hcz19_4 : w16.cell? ⟨gb406, 4, none⟩ = some (.bool a0_4) := (blk_cell BK406.out 4).trans rfl; have hfz19_0 := blk_frozen BK406.out 0; have hfz19_1 := blk_frozen BK406.out 1; have hfz19_2 := blk_frozen BK406.out 2; have hfz19_3 := blk_frozen BK406.out 3; have hfz19_4 := blk_frozen BK406.out 4; have hcz20_0 : w16.cell? ⟨gb407, 0, none⟩ = some (.string (⟨#[]⟩ : ByteArray)) := (blk_cell BK407.out 0).trans rfl; have hcz20_1 : w16.cell? ⟨gb407, 1, none⟩ = some (.slice none 0 0) := (blk_cell BK407.out 1).trans rfl; have hcz20_2 : w16.cell? ⟨gb407, 2, none⟩ = some (.slice none 0 0) := (blk_cell BK407.out 2).trans rfl; have hcz20_3 : w16.cell? ⟨gb407, 3, none⟩ = some (.string (⟨#[]⟩ : ByteArray)) := (blk_cell BK407.out 3).trans rfl; have hcz20_4 : w16.cell? ⟨gb407, 4, none⟩ = some (.bool false) := (blk_cell BK407.out 4).trans rfl; have hfz20_0 := blk_frozen BK407.out 0; have hfz20_1 := blk_frozen BK407.out 1; have hfz20_2 := blk_frozen BK407.out 2; have hfz20_3 := blk_frozen BK407.out 3; have hfz20_4 := blk_frozen BK407.out 4))
  refine bodyPost_ret (results_cell_row rfl _ _ gb407 32 #[.string a0_0, .slice Ao13 t409.length co13, .slice Ao17 t412.length co17, .string a0_3, .bool a0_4] (0, 0) _ rfl (by (with_reducible repeat (first | refine blk_drewN ?_ _ | refine blk_drew ?_ | refine blk_alloc ?_ _)); refine blk_put (cs := #[.string a0_0, .slice Ao13 t409.length co13, .slice Ao17 t412.length co17, .string a0_3, .bool false]) ?_ 4 _ rfl; (with_reducible repeat (first | refine blk_drewN ?_ _ | refine blk_drew ?_ | refine blk_alloc ?_ _)); refine blk_put (cs := #[.string a0_0, .slice Ao13 t409.length co13, .slice Ao17 t412.length co17, .string (⟨#[]⟩ : ByteArray), .bool false]) ?_ 3 _ rfl; (with_reducible repeat (first | refine blk_drewN ?_ _ | refine blk_drew ?_ | refine blk_alloc ?_ _)); refine blk_put (cs := #[.string a0_0, .slice Ao13 t409.length co13, .slice none 0 0, .string (⟨#[]⟩ : ByteArray), .bool false]) ?_ 2 _ rfl; (with_reducible repeat (first | refine blk_drewN ?_ _ | refine blk_drew ?_ | refine blk_alloc ?_ _)); refine blk_put (cs := #[.string a0_0, .slice none 0 0, .slice none 0 0, .string (⟨#[]⟩ : ByteArray), .bool false]) ?_ 1 _ rfl; (with_reducible repeat (first | refine blk_drewN ?_ _ | refine blk_drew ?_ | refine blk_alloc ?_ _)); refine blk_put (cs := #[.string (⟨#[]⟩ : ByteArray), .slice none 0 0, .slice none 0 0, .string (⟨#[]⟩ : ByteArray), .bool false]) ?_ 0 _ rfl; (with_reducible repeat (first | refine blk_drewN ?_ _ | refine blk_drew ?_ | refine blk_alloc ?_ _)); refine blk_far ?_ NB407_408.out _; (with_reducible repeat (first | refine blk_drewN ?_ _ | refine blk_drew ?_ | refine blk_alloc ?_ _)); refine blk_far ?_ NB407_408.out _; (with_reducible repeat (first | refine blk_drewN ?_ _ | refine blk_drew ?_ | refine blk_alloc ?_ _)); refine blk_far ?_ NB407_408.out _; (with_reducible repeat (first | refine blk_drewN ?_ _ | refine blk_drew ?_ | refine blk_alloc ?_ _)); exact BK407.out) Try.underlying32 rfl (by kernel_rfl)) rfl ?_
  exact ⟨_, _, by first | rfl | (simp [errW_none, errW_some] <;> rfl) | (simp [*, errW_none, errW_some] <;> rfl), by (with_reducible repeat (first | apply Kd.R_alloc | apply Kd.R_drewN | apply Kd.R_drew)); exact Kd.R_mono (Kd.R_far (p := ⟨gb407, 4, none⟩) (Kd.R_far (p := ⟨gb407, 3, none⟩) (Kd.R_far (p := ⟨gb407, 2, none⟩) (Kd.R_far (p := ⟨gb407, 1, none⟩) (Kd.R_far (p := ⟨gb407, 0, none⟩) (Kd.R_far (p := ⟨gb408, 4, none⟩) (Kd.R_far (p := ⟨gb408, 3, none⟩) (Kd.R_far (p := ⟨gb408, 2, none⟩) (Kd.R_types (Kd.R_types HO411.out BK408.out (by decide)) BK407.out (by decide)) (fun _ hk => hk.1.2) (.slice Ao17 t412.length co17)) (fun _ hk => hk.1.2) (.string a0_3)) (fun _ hk => hk.1.2) (.bool a0_4)) (fun _ hk => hk.2) (.string a0_0)) (fun _ hk => hk.2) (.slice Ao13 t409.length co13)) (fun _ hk => hk.2) (.slice Ao17 t412.length co17)) (fun _ hk => hk.2) (.string a0_3)) (fun _ hk => hk.2) (.bool a0_4)) (fun _ hk => hk.1.1.2), by (with_reducible repeat (first | apply Kd.R_alloc | apply Kd.R_drewN | apply Kd.R_drew)); exact Kd.R_mono (Kd.R_far (p := ⟨gb407, 4, none⟩) (Kd.R_far (p := ⟨gb407, 3, none⟩) (Kd.R_far (p := ⟨gb407, 2, none⟩) (Kd.R_far (p := ⟨gb407, 1, none⟩) (Kd.R_far (p := ⟨gb407, 0, none⟩) (Kd.R_far (p := ⟨gb408, 4, none⟩) (Kd.R_far (p := ⟨gb408, 3, none⟩) (Kd.R_far (p := ⟨gb408, 2, none⟩) (Kd.R_types (Kd.R_types HO414.out BK408.out (by decide)) BK407.out (by decide)) (fun _ hk => hk.1.2) (.slice Ao17 t412.length co17)) (fun _ hk => hk.1.2) (.string a0_3)) (fun _ hk => hk.1.2) (.bool a0_4)) (fun _ hk => hk.2) (.string a0_0)) (fun _ hk => hk.2) (.slice Ao13 t409.length co13)) (fun _ hk => hk.2) (.slice Ao17 t412.length co17)) (fun _ hk => hk.2) (.string a0_3)) (fun _ hk => hk.2) (.bool a0_4)) (fun _ hk => hk.1.1.2), by repeat (first | (with_reducible first | exact HB.out | apply below_alloc | apply pw_below_drewN | apply below_drew1 | refine below_set ?_ GE406.out | refine below_set ?_ GE407.out | refine below_set ?_ GE408.out) | exact HB.out)⟩
end Go.Proofs.Ytnjmhlhlmokjnaa.G
namespace Go.Proofs.Ytnjmhlhlmokjnaa.G
open Go.RowKit Go.Proofs.YtnjmhlhlmokjnaaW.PrintWords Go.Proofs.YtnjmhlhlmokjnaaW.PrintLast Go.Proofs.YtnjmhlhlmokjnaaW.PrintMore
attribute [local go_sem] max2_int min2_int max_two min_two max_three min_three max_four min_four
set_option linter.unusedVariables false
set_option linter.unusedSimpArgs false
def laws_toUnitS.l0 : Nat → List (S70) → List (S32) → Int → Option ((List (S32)))
  | 0, _, _, _ => none
  | k + 1, x0, x3, x4 => if x4 < (x0.length : Int) then (if 0 ≤ x4 then ((laws_toUnit.f k ((rd_T70 x0 x4).f0) ((rd_T70 x0 x4).f1) ((rd_T70 x0 x4).f2) ((rd_T70 x0 x4).f3) ((rd_T70 x0 x4).f4)).bind fun bt419 => (if x4 < (x3.length : Int) then (laws_toUnitS.l0 k x0 (x3.set (x4 : Int).toNat (⟨bt419.1, bt419.2.1, bt419.2.2.1, bt419.2.2.2.1, bt419.2.2.2.2⟩ : S32)) (wrap64 (x4 + 1))) else (none))) else (none)) else (some x3)
def laws_toUnitS.f (k : Nat) (l0 : List (S70)) : Option ((List (S32))) := if 0 ≤ (l0.length : Int) then (if ((l0.length : Int) : Int).toNat ≤ 3198579280802 then (laws_toUnitS.l0 k l0 (List.replicate ((l0.length : Int) : Int).toNat z32) 0) else (none)) else (none)
set_option maxHeartbeats 8000000 in
set_option maxRecDepth 100000 in
theorem laws_toUnitS.calls (k : Nat) (A0 : Option Addr) (c0 : Nat) (l0 : List (S70)) (r : List (S32)) (w : World) (hr0 : Kd.C k70 w A0 l0.length l0) (hc0 : l0.length ≤ c0) (h : laws_toUnitS.f k l0 = some r) :
    Calls Try.prog 20 #[.slice A0 l0.length c0] w fun e w' => ∃ v0_ : Value, e = .returned (v0_) ∧ Kd.S k32 32 w' w.heap.size (fun _ => True) v0_ r ∧ Below w.heap.size w w' := by
  have hu70 := Try.underlying70
  have hu32 := Try.underlying32
  have HR0 := Aside0.mk hr0
  have HC0 := Aside0.mk hc0
  clear hr0 hc0
  have HB := Aside0.mk (Below.refl w.heap.size w)
  have H : (if 0 ≤ (l0.length : Int) then (if ((l0.length : Int) : Int).toNat ≤ 3198579280802 then (laws_toUnitS.l0 k l0 (List.replicate ((l0.length : Int) : Int).toNat z32) 0) else (none)) else (none)) = some r := h
  clear h
  by_cases c2 : 0 ≤ (l0.length : Int)
  · rw [if_pos c2] at H
    have c2b0 := eq_true c2
    have c2b1 : decide (0 ≤ (l0.length : Int)) = true := decide_eq_true c2
    clear c2
    by_cases c3 : ((l0.length : Int) : Int).toNat ≤ 3198579280802
    · rw [if_pos c3] at H
      have c3b0 := eq_true c3
      have c3b1 : decide (((l0.length : Int) : Int).toNat ≤ 3198579280802) = true := decide_eq_true c3
      clear c3
      obtain ⟨y415, hy415⟩ : ∃ y_ : List (S32), y_ = (List.replicate ((l0.length : Int) : Int).toNat z32) := ⟨_, rfl⟩
      replace H : (laws_toUnitS.l0 k l0 y415 0) = some r := by first | (rw [hy415]; with_reducible exact H) | (have H2_ := (Option.bind_some _ _).symm.trans H; rw [hy415]; with_reducible exact H2_) | (have H2_ := (Option.bind_some _ _).symm.trans H; with_reducible exact H2_) | with_reducible exact H | (rw [hy415]; exact H) | exact H
      have Ny415 := Aside0.mk hy415
      clear hy415
      have H' := Aside0.mk H
      clear H
      go_enter Try.func20, Try.ntmps20
      go_wp2_with (first | ((with_reducible refine gate_dst (N := 7) rfl ?_); refine Kd.S_make k32 _ 32 rfl (N := 7) rfl 24 _ _ rfl (l0.length : Int) rfl rfl Try.underlying24 (.agg #[(.string ⟨#[]⟩), (.slice none 0 0), (.slice none 0 0), (.string ⟨#[]⟩), (.bool false)]) 88 info32 rfl (by decide) (by omega) z32 (ok := fun _ => True) (okp := fun _ => True) (k32_mkM _ _ _ z32 (Kd.R_nil _ _ _ _ _) (Kd.R_nil _ _ _ _ _)) (fun _ hk => hk) trivial (of_decide_eq_true (by first | (with_reducible assumption) | assumption)) (Nat.le_trans (Nat.mul_le_mul_right _ (of_decide_eq_true (by first | (with_reducible assumption) | assumption) : (l0.length : Int).toNat ≤ 3198579280802)) (by omega)) (Below.refl _ _) (Nat.le_refl _) ?_; intro v416 w4 ho5 hb hg_ hnew_; clear hg_ hnew_; (first | rw [← Ny415.out] at ho5 | (simp only [Int.reduceToNat] at ho5; rw [← Ny415.out] at ho5)); have n0_ := Aside0.mk (Kd.S_lower ho5 (below_size (by repeat (first | (with_reducible first | exact HB.out | apply below_alloc | apply pw_below_drewN | apply below_drew1) | exact HB.out)))); have n1_ := Aside0.mk (below_step (by repeat (first | (with_reducible first | exact HB.out | apply below_alloc | apply pw_below_drewN | apply below_drew1) | exact HB.out)) hb); clear HB; have HO417 := n0_; have HB := n1_; clear n0_ n1_; clear hb ho5))
      go_loopg [4] k (fun kq v4 w' => ∃ (x3_1 : List (S32)) (x4_1 : Int), v4 = .int .i64 x4_1 ∧ Aside0 (laws_toUnitS.l0 kq l0 x3_1 x4_1 = some r) ∧ Aside0 (kq ≤ k) ∧ Aside0 (Kd.S k32 32 w' w.heap.size (fun _ => True) v416 x3_1) ∧ Aside0 (Below w.heap.size w w'))
      case atStart => exact ⟨(y415), (0), (by first | rfl | (simp; done) | (simp [*]; done)), H', ⟨Nat.le_refl _⟩, ⟨by (with_reducible repeat (first | apply Kd.S_alloc | apply Kd.S_drewN | apply Kd.S_drew)); exact HO417.out⟩, ⟨by repeat (first | (with_reducible first | exact HB.out | apply below_alloc | apply pw_below_drewN | apply below_drew1) | exact HB.out)⟩⟩
      case round =>
        clear H'
        try clear c2
        try clear c2b0
        try clear c2b1
        try clear p2
        try clear c3
        try clear c3b0
        try clear c3b1
        obtain ⟨x3_1, x4_1, rfl, HA, HK1, HO_3, HB⟩ := hrel
        cases gk with
        | zero => exact absurd HA.out (by simp [laws_toUnitS.l0])
        | succ k1 =>
          have H := HA.out
          clear HA
          simp only [laws_toUnitS.l0] at H
          by_cases c6 : x4_1 < (l0.length : Int)
          · rw [if_pos c6] at H
            have c6b0 : decide (x4_1 < (l0.length : Int)) = true := decide_eq_true c6
            clear c6
            by_cases c7 : 0 ≤ x4_1
            · rw [if_pos c7] at H
              have c7b0 : decide (0 ≤ x4_1) = true := decide_eq_true c7
              clear c7
              replace H := Option.bind_eq_some_iff.mp H
              obtain ⟨⟨t419, t420, t423, t426, t427⟩, A80, H⟩ := H
              replace H : (if x4_1 < (x3_1.length : Int) then (laws_toUnitS.l0 k1 l0 (x3_1.set (x4_1 : Int).toNat (⟨t419, t420, t423, t426, t427⟩ : S32)) (wrap64 (x4_1 + 1))) else (none)) = some r := H
              have A8 := Aside0.mk A80
              clear A80
              by_cases c9 : x4_1 < (x3_1.length : Int)
              · rw [if_pos c9] at H
                have c9b0 : decide (x4_1 < (x3_1.length : Int)) = true := decide_eq_true c9
                clear c9
                obtain ⟨y428, hy428⟩ : ∃ y_ : List (S32), y_ = (x3_1.set (x4_1 : Int).toNat (⟨t419, t420, t423, t426, t427⟩ : S32)) := ⟨_, rfl⟩
                replace H : (laws_toUnitS.l0 k1 l0 y428 (wrap64 (x4_1 + 1))) = some r := by first | (rw [hy428]; with_reducible exact H) | (have H2_ := (Option.bind_some _ _).symm.trans H; rw [hy428]; with_reducible exact H2_) | (have H2_ := (Option.bind_some _ _).symm.trans H; with_reducible exact H2_) | with_reducible exact H | (rw [hy428]; exact H) | exact H
                have Ny428 := Aside0.mk hy428
                clear hy428
                have H' := Aside0.mk H
                clear H
                have p418 : 0 ≤ (x4_1 : Int) := of_decide_eq_true (by first | (with_reducible assumption) | assumption)
                have q418 : x4_1 < (l0.length : Int) := of_decide_eq_true (by first | (with_reducible assumption) | assumption)
                obtain ⟨ad418, A418_1, c418_1, A418_2, c418_2, e418, hx418_0, hx418_1, hx418_2, hx418_3, hx418_4, hl418_1, hi418_1, hl418_2, hi418_2⟩ := at_T70 HR0.out x4_1 p418 q418
                cases e418
                replace hx418_0 := (HB.out.cell (World.block_lt_of_cell? w _ hx418_0)).trans hx418_0
                replace hx418_1 := (HB.out.cell (World.block_lt_of_cell? w _ hx418_1)).trans hx418_1
                replace hx418_2 := (HB.out.cell (World.block_lt_of_cell? w _ hx418_2)).trans hx418_2
                replace hx418_3 := (HB.out.cell (World.block_lt_of_cell? w _ hx418_3)).trans hx418_3
                replace hx418_4 := (HB.out.cell (World.block_lt_of_cell? w _ hx418_4)).trans hx418_4
                have HR418_1 := Aside0.mk hi418_1
                have HC418_1 := Aside0.mk hl418_1
                clear hi418_1 hl418_1
                have HR418_2 := Aside0.mk hi418_2
                have HC418_2 := Aside0.mk hl418_2
                clear hi418_2 hl418_2
                replace p418 := eq_true p418
                replace q418 := eq_true q418
                go_wp2_with (first | ((with_reducible refine gate_callee (f := 55) rfl ?_); refine goesL_ (some 20) rfl rfl Try.func55 (by kernel_rfl) rfl #[.agg #[.string ((rd_T70 l0 x4_1).f0), .slice A418_1 ((rd_T70 l0 x4_1).f1).length c418_1, .slice A418_2 ((rd_T70 l0 x4_1).f2).length c418_2, .string ((rd_T70 l0 x4_1).f3), .bool ((rd_T70 l0 x4_1).f4)]] rfl (by (try simp only [List.map_toArray, List.map_cons, List.map_nil]); first | done | rfl | (simp only [List.length_drop, List.length_take]; rfl)) ?_; (with_reducible refine (laws_toUnit.calls k1 ((rd_T70 l0 x4_1).f0) _ _ ((rd_T70 l0 x4_1).f1) _ _ ((rd_T70 l0 x4_1).f2) ((rd_T70 l0 x4_1).f3) ((rd_T70 l0 x4_1).f4) t419 t420 t423 t426 t427 _ ?side1 ?side2 ?side3 ?side4 A8.out).mono ?_); (case side1 => repeat (first | exact (Kd.C_below HR418_1.out HB.out) | (with_reducible refine Kd.C_alloc ?_ _) | (with_reducible refine Kd.C_drewN ?_ _) | (with_reducible refine Kd.C_drew ?_))); (case side2 => exact HC418_1.out); (case side3 => repeat (first | exact (Kd.C_below HR418_2.out HB.out) | (with_reducible refine Kd.C_alloc ?_ _) | (with_reducible refine Kd.C_drewN ?_ _) | (with_reducible refine Kd.C_drew ?_))); (case side4 => exact HC418_2.out); rintro e w11 ⟨v421, v424, rfl, ho0, ho1, hb⟩; refine ⟨_, rfl, ?_⟩; obtain ⟨AV421, cV421, hV421⟩ := Kd.R_slice ho0; subst hV421; obtain ⟨AV424, cV424, hV424⟩ := Kd.R_slice ho1; subst hV424; have n0_ := Aside0.mk (Kd.S_mono (Kd.S_told (Kd.S_told (Kd.S_old (by (with_reducible repeat (first | apply Kd.S_alloc | apply Kd.S_drewN | apply Kd.S_drew)); exact HO_3.out) hb) (Kd.R_base ho0)) (Kd.R_base ho1)) (fun _ h_ => h_.1)); have n1_ := Aside0.mk (Kd.R_lower ho0 (below_size (by repeat (first | (with_reducible first | exact HB.out | apply below_alloc | apply pw_below_drewN | apply below_drew1) | exact HB.out)))); have n2_ := Aside0.mk (Kd.R_lower ho1 (below_size (by repeat (first | (with_reducible first | exact HB.out | apply below_alloc | apply pw_below_drewN | apply below_drew1) | exact HB.out)))); have n3_ := Aside0.mk (below_step (by repeat (first | (with_reducible first | exact HB.out | apply below_alloc | apply pw_below_drewN | apply below_drew1) | exact HB.out)) hb); clear HO_3; clear HB; have HO_3 := n0_; have HO422 := n1_; have HO425 := n2_; have HB := n3_; clear n0_ n1_ n2_ n3_; (try clear hb); (try clear hb2); (try clear hk); (try clear hi); (try clear ho0); (try clear ho1); have p10 : 0 ≤ (x4_1 : Int) := of_decide_eq_true (by first | (with_reducible assumption) | assumption); have q10 : (x4_1 : Int) < ((x3_1.length : Int) : Int) := of_decide_eq_true (by first | (with_reducible assumption) | assumption); obtain ⟨go10, co10, eo10, gb10, gl10, cl10, HG10⟩ := Kd.S_form HO_3.out (by omega); (first | cases eo10 | (injection eo10 with ea_ en_ ec_; (first | subst ea_ | (injection ea_ with ea_; subst ea_)); subst ec_; clear en_)); have GB10 := Aside0.mk gb10; have GG10 := Aside0.mk HG10; clear gb10 gl10 HG10; obtain ⟨_, ce10, hcl10, hM10, hcc10, hfr10, _, _⟩ := Kd.S_elem HO_3.out z32 (x4_1 : Int) p10 q10; obtain ⟨ve10_1, ve10_2, rfl, ge10_1, ge10_2⟩ := k32_openM hM10; have hx10_0 : w11.cell? ⟨go10, (x4_1 : Int).toNat * 5, none⟩ = some (.string ((rd_T32 x3_1 x4_1).f0)) := hcc10 0 _ rfl; have hx10_1 : w11.cell? ⟨go10, (x4_1 : Int).toNat * 5 + 1, none⟩ = some (ve10_1) := hcc10 1 _ rfl; have hx10_2 : w11.cell? ⟨go10, (x4_1 : Int).toNat * 5 + 2, none⟩ = some (ve10_2) := hcc10 2 _ rfl; have hx10_3 : w11.cell? ⟨go10, (x4_1 : Int).toNat * 5 + 3, none⟩ = some (.string ((rd_T32 x3_1 x4_1).f3)) := hcc10 3 _ rfl; have hx10_4 : w11.cell? ⟨go10, (x4_1 : Int).toNat * 5 + 4, none⟩ = some (.bool ((rd_T32 x3_1 x4_1).f4)) := hcc10 4 _ rfl; have hf10_0 : w11.frozen? ⟨go10, (x4_1 : Int).toNat * 5, none⟩ = false := hfr10 0; have hf10_1 : w11.frozen? ⟨go10, (x4_1 : Int).toNat * 5 + 1, none⟩ = false := hfr10 1; have hf10_2 : w11.frozen? ⟨go10, (x4_1 : Int).toNat * 5 + 2, none⟩ = false := hfr10 2; have hf10_3 : w11.frozen? ⟨go10, (x4_1 : Int).toNat * 5 + 3, none⟩ = false := hfr10 3; have hf10_4 : w11.frozen? ⟨go10, (x4_1 : Int).toNat * 5 + 4, none⟩ = false := hfr10 4; clear hcl10 hcc10 hfr10 hM10; replace p10 := eq_true p10; replace q10 := eq_true q10; have n_ := Aside0.mk (Kd.S_mono (ok' := (fun k_ => some k_ ≠ ((Value.slice AV421 t420.length cV421) : Value).ownBlock ∧ some k_ ≠ ((Value.slice AV424 t423.length cV424) : Value).ownBlock)) HO_3.out (fun k_ hk => ⟨hk.1.2, hk.2⟩)); clear HO_3; have HO_3 := n_; clear n_; have HX12 := Aside0.mk (show Kd.S k32 32 w11 w.heap.size (fun k_ => ((fun _ => True)) k_ ∧ ¬ ((fun k_ => some k_ = ((Value.slice AV421 t420.length cV421) : Value).ownBlock ∨ some k_ = ((Value.slice AV424 t423.length cV424) : Value).ownBlock)) k_) (.slice (some ⟨go10, 0, none⟩) x3_1.length co10) x3_1 from (by (with_reducible repeat (first | apply Kd.S_alloc | apply Kd.S_drewN | apply Kd.S_drew)); exact Kd.S_mono HO_3.out (fun k_ hk => ⟨trivial, fun e_ => e_.elim (fun h_ => hk.1 h_) (fun h_ => hk.2 h_)⟩))); obtain ⟨oki12, ce12, hcl12, hM12, hcc12, hfr12, hoki12, hH12⟩ := Kd.S_elem HX12.out z32 (x4_1 : Int) (of_decide_eq_true (by first | (with_reducible assumption) | assumption)) (by have h_ : (x4_1 : Int) < ((x3_1.length : Int) : Int) := of_decide_eq_true (by first | (with_reducible assumption) | assumption); first | exact h_ | (have e_ := (Kd.S_reads' HO_3.out).1; omega) | simpa using h_); obtain ⟨ve12_1, ve12_2, rfl, ge12_1, ge12_2⟩ := k32_openM hM12; have HP12 := Kd.S_seg hH12 (of_decide_eq_true (by first | (with_reducible assumption) | assumption)) (by have h_ : (x4_1 : Int) < ((x3_1.length : Int) : Int) := of_decide_eq_true (by first | (with_reducible assumption) | assumption); first | exact h_ | (have e_ := (Kd.S_reads' HO_3.out).1; omega) | simpa using h_) (seg := [.string t419, (Value.slice AV421 t420.length cV421), (Value.slice AV424 t423.length cV424), .string t426, .bool t427]) (j := 0) (show 5 ≤ 5 from by decide) (x' := (⟨t419, t420, t423, t426, t427⟩ : S32)) (k32_mkM _ _ _ (⟨t419, t420, t423, t426, t427⟩ : S32) (Kd.R_mono (Kd.R_tight rfl (Kd.R_mono (ok' := fun k_ => ((fun _ => True)) k_ ∧ k_ ≠ go10) (Kd.R_apart' (HO422.out) (Kd.S_typed HO_3.out) (by decide)) (fun k_ hk => ⟨trivial, fun e_ => (hk.2) (by rw [e_]; rfl)⟩))) (fun _ h_ => Or.inr (Or.inl h_))) (Kd.R_mono (Kd.R_tight rfl (Kd.R_mono (ok' := fun k_ => ((fun _ => True)) k_ ∧ k_ ≠ go10) (Kd.R_apart' (HO425.out) (Kd.S_typed HO_3.out) (by decide)) (fun k_ hk => ⟨trivial, fun e_ => (hk.2) (by rw [e_]; rfl)⟩))) (fun _ h_ => Or.inr (Or.inr (h_))))) (fun _ hk => hk) (fun k_ hk_ => hk_.elim (fun h_ => ((Kd.R_mono (ok' := fun k_ => ((fun _ => True)) k_ ∧ k_ ≠ go10) (Kd.R_apart' (HO422.out) (Kd.S_typed HO_3.out) (by decide)) (fun k_ hk => ⟨trivial, fun e_ => (hk.2) (by rw [e_]; rfl)⟩))).1 k_ h_.symm) (fun h_ => ((Kd.R_mono (ok' := fun k_ => ((fun _ => True)) k_ ∧ k_ ≠ go10) (Kd.R_apart' (HO425.out) (Kd.S_typed HO_3.out) (by decide)) (fun k_ hk => ⟨trivial, fun e_ => (hk.2) (by rw [e_]; rfl)⟩))).1 k_ h_.symm)); have hx12_0 := hcc12 0 _ rfl; (try simp only [show (k32).sz = 5 from rfl, Nat.mul_one, Nat.add_zero] at hx12_0); have hf12_0 := hfr12 0; (try simp only [show (k32).sz = 5 from rfl, Nat.mul_one, Nat.add_zero] at hf12_0); have hx12_1 := hcc12 1 _ rfl; (try simp only [show (k32).sz = 5 from rfl, Nat.mul_one, Nat.add_zero] at hx12_1); have hf12_1 := hfr12 1; (try simp only [show (k32).sz = 5 from rfl, Nat.mul_one, Nat.add_zero] at hf12_1); have hx12_2 := hcc12 2 _ rfl; (try simp only [show (k32).sz = 5 from rfl, Nat.mul_one, Nat.add_zero] at hx12_2); have hf12_2 := hfr12 2; (try simp only [show (k32).sz = 5 from rfl, Nat.mul_one, Nat.add_zero] at hf12_2); have hx12_3 := hcc12 3 _ rfl; (try simp only [show (k32).sz = 5 from rfl, Nat.mul_one, Nat.add_zero] at hx12_3); have hf12_3 := hfr12 3; (try simp only [show (k32).sz = 5 from rfl, Nat.mul_one, Nat.add_zero] at hf12_3); have hx12_4 := hcc12 4 _ rfl; (try simp only [show (k32).sz = 5 from rfl, Nat.mul_one, Nat.add_zero] at hx12_4); have hf12_4 := hfr12 4; (try simp only [show (k32).sz = 5 from rfl, Nat.mul_one, Nat.add_zero] at hf12_4); clear hcl12 hcc12 hfr12 hM12 hoki12 hH12) | ((with_reducible refine gate_store (t := 32) (p := 21) rfl ?_); refine store_event (t := 32) (p := 21) (v := ?vo_w13) (w1 := (((((w11.setCell ⟨go10, (x4_1 : Int).toNat * 5, none⟩ (.string t419)).setCell ⟨go10, (x4_1 : Int).toNat * 5 + 1, none⟩ ((Value.slice AV421 t420.length cV421))).setCell ⟨go10, (x4_1 : Int).toNat * 5 + 2, none⟩ ((Value.slice AV424 t423.length cV424))).setCell ⟨go10, (x4_1 : Int).toNat * 5 + 3, none⟩ (.string t426)).setCell ⟨go10, (x4_1 : Int).toNat * 5 + 4, none⟩ (.bool t427))) ?hg ?ho ?hn ?hr ?_; (case ho => rfl); (case hg => rfl); (case hn => rfl); (case hr => first | (go_simp; done) | (go_simp; rfl)); intro w13 hw; have hg : w11.grownBy w13 (some go10) := (by rw [hw]; exact HP12.2); have hp_ : Kd.S k32 32 w13 w.heap.size (fun _ => True) (.slice (some ⟨go10, 0, none⟩) x3_1.length co10) y428 := (by rw [hw, Ny428.out]; exact HP12.1); clear HP12; have n0_ := Aside0.mk (hp_); have n1_ := Aside0.mk ((by rw [hw]; exact below_set (below_set (below_set (below_set (below_set (HB.out) GB10.out) GB10.out) GB10.out) GB10.out) GB10.out : Below w.heap.size w w13)); clear HO_3; clear HB; clear HO422; clear HO425; have HO_3 := n0_; have HB := n1_; clear n0_ n1_; clear hg hw hp_))
                go_roundg k1
                case measure => have := HK1.out; omega
                case rel => exact ⟨(y428), (wrap64 (x4_1 + 1)), (by first | rfl | (simp; done) | (simp [*]; done)), H', ⟨by have := HK1.out; omega⟩, ⟨by (with_reducible repeat (first | apply Kd.S_alloc | apply Kd.S_drewN | apply Kd.S_drew)); exact HO_3.out⟩, ⟨by repeat (first | (with_reducible first | exact HB.out | apply below_alloc | apply pw_below_drewN | apply below_drew1) | exact HB.out)⟩⟩
              · rw [if_neg c9] at H
                exact absurd H (by simp)
            · rw [if_neg c7] at H
              exact absurd H (by simp)
          · rw [if_neg c6] at H
            have c6b0 : decide (x4_1 < (l0.length : Int)) = false := decide_eq_false c6
            clear c6
            obtain rfl := Option.some.inj H
            go_wp2
            go_ret
            exact ⟨_, by first | rfl | (simp [errW_none, errW_some] <;> rfl) | (simp [*, errW_none, errW_some] <;> rfl), by (with_reducible repeat (first | apply Kd.S_alloc | apply Kd.S_drewN | apply Kd.S_drew)); exact HO_3.out, by repeat (first | (with_reducible first | exact HB.out | apply below_alloc | apply pw_below_drewN | apply below_drew1) | exact HB.out)⟩
    · rw [if_neg c3] at H
      exact absurd H (by simp)
  · rw [if_neg c2] at H
    exact absurd H (by simp)
end Go.Proofs.Ytnjmhlhlmokjnaa.G
namespace Go.Proofs.Ytnjmhlhlmokjnaa.G
open Go.RowKit Go.Proofs.YtnjmhlhlmokjnaaW.PrintWords Go.Proofs.YtnjmhlhlmokjnaaW.PrintLast Go.Proofs.YtnjmhlhlmokjnaaW.PrintMore
attribute [local go_sem] max2_int min2_int max_two min_two max_three min_three max_four min_four
set_option linter.unusedVariables false
set_option linter.unusedSimpArgs false
def laws_szStringS.l0 : Nat → List ByteArray → Int → Int → Option (Int)
  | 0, _, _, _ => none
  | k + 1, x0, x1, x5 => if x5 < (x0.length : Int) then (if 0 ≤ x5 then (if (wrap64 (x1 - ((rdOf ByteArray.empty x0 x5).size : Int))) < 0 then (some (-1)) else (laws_szStringS.l0 k x0 (wrap64 (x1 - ((rdOf ByteArray.empty x0 x5).size : Int))) (wrap64 (x5 + 1)))) else (none)) else (some x1)
def laws_szStringS.f (k : Nat) (l0 : List ByteArray) (a1 : Int) : Option (Int) := if (wrap64 (a1 - (l0.length : Int))) < 0 then (some (-1)) else (laws_szStringS.l0 k l0 (wrap64 (a1 - (l0.length : Int))) 0)
set_option maxHeartbeats 8000000 in
set_option maxRecDepth 100000 in
theorem laws_szStringS.calls (k : Nat) (A0 : Option Addr) (c0 : Nat) (l0 : List ByteArray) (a1 : Int) (r : Int) (w : World) (hr0 : Kd.C Kd.string w A0 l0.length l0) (hc0 : l0.length ≤ c0) (h : laws_szStringS.f k l0 a1 = some r) :
    Calls Try.prog 19 #[.slice A0 l0.length c0, .int .i64 a1] w fun e w' => e = .returned (.int .i64 r) ∧ Drawn0 w w' := by
  have HR0 := Aside0.mk hr0
  have HC0 := Aside0.mk hc0
  clear hr0 hc0
  have H : (if (wrap64 (a1 - (l0.length : Int))) < 0 then (some (-1)) else (laws_szStringS.l0 k l0 (wrap64 (a1 - (l0.length : Int))) 0)) = some r := h
  clear h
  by_cases c3 : (wrap64 (a1 - (l0.length : Int))) < 0
  · rw [if_pos c3] at H
    have c3b0 : decide ((wrap64 (a1 - (l0.length : Int))) < 0) = true := decide_eq_true c3
    clear c3
    obtain rfl := Option.some.inj H
    go_enter Try.func19, Try.ntmps19
    go_wp2
    go_ret
    exact ⟨by first | rfl | (simp; done) | (simp [*]; done), by repeat (first | exact Drawn0.refl _ | apply Drawn0.step)⟩
  · rw [if_neg c3] at H
    have c3b0 : decide ((wrap64 (a1 - (l0.length : Int))) < 0) = false := decide_eq_false c3
    clear c3
    have H' := Aside0.mk H
    clear H
    go_enter Try.func19, Try.ntmps19
    go_wp2
    go_loopg [1, 5] k (fun kq v1 v5 w' => ∃ (x1_1 : Int) (x5_1 : Int), v1 = .int .i64 x1_1 ∧ v5 = .int .i64 x5_1 ∧ Aside0 (laws_szStringS.l0 kq l0 x1_1 x5_1 = some r) ∧ Aside0 (kq ≤ k) ∧ Drawn0 w w')
    case atStart => exact ⟨(wrap64 (a1 - (l0.length : Int))), (0), (by first | rfl | (simp; done) | (simp [*]; done)), (by first | rfl | (simp; done) | (simp [*]; done)), H', ⟨Nat.le_refl _⟩, by repeat (first | exact Drawn0.refl _ | apply Drawn0.step)⟩
    case round =>
      clear H'
      try clear c1
      try clear p2
      try clear c3
      try clear c3b0
      obtain ⟨x1_1, x5_1, rfl, rfl, HA, HK1, ⟨m1, rfl⟩⟩ := hrel
      cases gk with
      | zero => exact absurd HA.out (by simp [laws_szStringS.l0])
      | succ k1 =>
        have H := HA.out
        clear HA
        simp only [laws_szStringS.l0] at H
        by_cases c4 : x5_1 < (l0.length : Int)
        · rw [if_pos c4] at H
          have c4b0 : decide (x5_1 < (l0.length : Int)) = true := decide_eq_true c4
          clear c4
          by_cases c5 : 0 ≤ x5_1
          · rw [if_pos c5] at H
            have c5b0 : decide (0 ≤ x5_1) = true := decide_eq_true c5
            clear c5
            by_cases c6 : (wrap64 (x1_1 - ((rdOf ByteArray.empty l0 x5_1).size : Int))) < 0
            · rw [if_pos c6] at H
              have c6b0 : decide ((wrap64 (x1_1 - ((rdOf ByteArray.empty l0 x5_1).size : Int))) < 0) = true := decide_eq_true c6
              clear c6
              obtain rfl := Option.some.inj H
              have p395 : 0 ≤ (x5_1 : Int) := of_decide_eq_true (by first | (with_reducible assumption) | assumption)
              have q395 : x5_1 < (l0.length : Int) := of_decide_eq_true (by first | (with_reducible assumption) | assumption)
              obtain ⟨ad395, e395, hx395_0⟩ := Kd.at_string HR0.out x5_1 p395 q395
              cases e395
              replace p395 := eq_true p395
              replace q395 := eq_true q395
              go_wp2
              go_ret
              exact ⟨by first | rfl | (simp; done) | (simp [*]; done), by repeat (first | exact Drawn0.refl _ | apply Drawn0.step)⟩
            · rw [if_neg c6] at H
              have c6b0 : decide ((wrap64 (x1_1 - ((rdOf ByteArray.empty l0 x5_1).size : Int))) < 0) = false := decide_eq_false c6
              clear c6
              have H' := Aside0.mk H
              clear H
              have p395 : 0 ≤ (x5_1 : Int) := of_decide_eq_true (by first | (with_reducible assumption) | assumption)
              have q395 : x5_1 < (l0.length : Int) := of_decide_eq_true (by first | (with_reducible assumption) | assumption)
              obtain ⟨ad395, e395, hx395_0⟩ := Kd.at_string HR0.out x5_1 p395 q395
              cases e395
              replace p395 := eq_true p395
              replace q395 := eq_true q395
              go_wp2
              go_roundg k1
              case measure => have := HK1.out; omega
              case rel => exact ⟨(wrap64 (x1_1 - ((rdOf ByteArray.empty l0 x5_1).size : Int))), (wrap64 (x5_1 + 1)), (by first | rfl | (simp; done) | (simp [*]; done)), (by first | rfl | (simp; done) | (simp [*]; done)), H', ⟨by have := HK1.out; omega⟩, by repeat (first | exact Drawn0.refl _ | apply Drawn0.step)⟩
          · rw [if_neg c5] at H
            exact absurd H (by simp)
        · rw [if_neg c4] at H
          have c4b0 : decide (x5_1 < (l0.length : Int)) = false := decide_eq_false c4
          clear c4
          obtain rfl := Option.some.inj H
          go_wp2
          go_ret
          exact ⟨by first | rfl | (simp; done) | (simp [*]; done), by repeat (first | exact Drawn0.refl _ | apply Drawn0.step)⟩
end Go.Proofs.Ytnjmhlhlmokjnaa.G
namespace Go.Proofs.Ytnjmhlhlmokjnaa.G
open Go.RowKit Go.Proofs.YtnjmhlhlmokjnaaW.PrintWords Go.Proofs.YtnjmhlhlmokjnaaW.PrintLast Go.Proofs.YtnjmhlhlmokjnaaW.PrintMore
attribute [local go_sem] max2_int min2_int max_two min_two max_three min_three max_four min_four
set_option linter.unusedVariables false
set_option linter.unusedSimpArgs false
def laws_szUnit.f (k : Nat) (a0_0 : ByteArray) (l0_1 : List ByteArray) (l0_2 : List ByteArray) (a0_3 : ByteArray) (a0_4 : Bool) (a1 : Int) : Option (Int) := if (wrap64 (a1 - (a0_0.size : Int))) < 0 then (some (-1)) else ((laws_szStringS.f k l0_1 (wrap64 (a1 - (a0_0.size : Int)))).bind fun t397 => (if t397 < 0 then (some (-1)) else ((laws_szStringS.f k l0_2 t397).bind fun t398 => (if t398 < 0 then (some (-1)) else (if (wrap64 (t398 - (a0_3.size : Int))) < 0 then (some (-1)) else (some (wrap64 (t398 - (a0_3.size : Int)))))))))
set_option maxHeartbeats 8000000 in
set_option maxRecDepth 100000 in
theorem laws_szUnit.calls (k : Nat) (a0_0 : ByteArray) (A0_1 : Option Addr) (c0_1 : Nat) (l0_1 : List ByteArray) (A0_2 : Option Addr) (c0_2 : Nat) (l0_2 : List ByteArray) (a0_3 : ByteArray) (a0_4 : Bool) (a1 : Int) (r : Int) (w : World) (hr0_1 : Kd.C Kd.string w A0_1 l0_1.length l0_1) (hc0_1 : l0_1.length ≤ c0_1) (hr0_2 : Kd.C Kd.string w A0_2 l0_2.length l0_2) (hc0_2 : l0_2.length ≤ c0_2) (h : laws_szUnit.f k a0_0 l0_1 l0_2 a0_3 a0_4 a1 = some r) :
    Calls Try.prog 54 #[.agg #[.string a0_0, .slice A0_1 l0_1.length c0_1, .slice A0_2 l0_2.length c0_2, .string a0_3, .bool a0_4], .int .i64 a1] w fun e w' => e = .returned (.int .i64 r) ∧ Below w.heap.size w w' := by
  have hu70 := Try.underlying70
  have HR0_1 := Aside0.mk hr0_1
  have HC0_1 := Aside0.mk hc0_1
  clear hr0_1 hc0_1
  have HR0_2 := Aside0.mk hr0_2
  have HC0_2 := Aside0.mk hc0_2
  clear hr0_2 hc0_2
  have HB := Aside0.mk (Below.refl w.heap.size w)
  have H : (if (wrap64 (a1 - (a0_0.size : Int))) < 0 then (some (-1)) else ((laws_szStringS.f k l0_1 (wrap64 (a1 - (a0_0.size : Int)))).bind fun t397 => (if t397 < 0 then (some (-1)) else ((laws_szStringS.f k l0_2 t397).bind fun t398 => (if t398 < 0 then (some (-1)) else (if (wrap64 (t398 - (a0_3.size : Int))) < 0 then (some (-1)) else (some (wrap64 (t398 - (a0_3.size : Int)))))))))) = some r := h
  clear h
  by_cases c3 : (wrap64 (a1 - (a0_0.size : Int))) < 0
  · rw [if_pos c3] at H
    have c3b0 : decide ((wrap64 (a1 - (a0_0.size : Int))) < 0) = true := decide_eq_true c3
    clear c3
    obtain rfl := Option.some.inj H
    go_enter Try.func54, Try.ntmps54
    go_wp2_with (first | ((with_reducible refine gate_dst (N := 2) rfl ?_); refine box_event ?hg (N := 2) ?hd (cs := #[.string a0_0, .slice A0_1 l0_1.length c0_1, .slice A0_2 l0_2.length c0_2, .string a0_3, .bool a0_4]) (t := 70) ?hr ?_; (case hd => rfl); (case hg => rfl); (case hr => first | (go_simp; done) | (go_simp; rfl)); intro gb396 hg w4 hbox hb; have n0_ := Aside0.mk (below_step (by repeat (first | (with_reducible first | exact HB.out | apply below_alloc | apply pw_below_drewN | apply below_drew1) | exact HB.out)) hb); have n1_ := Aside0.mk (hbox); have n2_ := Aside0.mk ((by rw [hg]; exact (below_size (by repeat (first | (with_reducible first | exact HB.out | apply below_alloc | apply pw_below_drewN | apply below_drew1) | exact HB.out))) : w.heap.size ≤ gb396)); have n3_ := Aside0.mk ((by rw [hg]; exact (below_size (by repeat (first | (with_reducible first | exact HB.out | apply below_alloc | apply pw_below_drewN | apply below_drew1) | exact HB.out))) : w.heap.size ≤ gb396)); clear HB; have HB := n0_; have BK396 := n1_; have GW396 := n2_; have GE396 := n3_; clear n0_ n1_ n2_ n3_; clear hb hbox hg; have hcz5_0 : w4.cell? ⟨gb396, 0, none⟩ = some (.string a0_0) := (blk_cell BK396.out 0).trans rfl; have hcz5_1 : w4.cell? ⟨gb396, 1, none⟩ = some (.slice A0_1 l0_1.length c0_1) := (blk_cell BK396.out 1).trans rfl; have hcz5_2 : w4.cell? ⟨gb396, 2, none⟩ = some (.slice A0_2 l0_2.length c0_2) := (blk_cell BK396.out 2).trans rfl; have hcz5_3 : w4.cell? ⟨gb396, 3, none⟩ = some (.string a0_3) := (blk_cell BK396.out 3).trans rfl; have hcz5_4 : w4.cell? ⟨gb396, 4, none⟩ = some (.bool a0_4) := (blk_cell BK396.out 4).trans rfl; have hfz5_0 := blk_frozen BK396.out 0; have hfz5_1 := blk_frozen BK396.out 1; have hfz5_2 := blk_frozen BK396.out 2; have hfz5_3 := blk_frozen BK396.out 3; have hfz5_4 := blk_frozen BK396.out 4))
    go_ret
    exact ⟨by first | rfl | (simp [errW_none, errW_some] <;> rfl) | (simp [*, errW_none, errW_some] <;> rfl), by repeat (first | (with_reducible first | exact HB.out | apply below_alloc | apply pw_below_drewN | apply below_drew1 | refine below_set ?_ GE396.out) | exact HB.out)⟩
  · rw [if_neg c3] at H
    have c3b0 : decide ((wrap64 (a1 - (a0_0.size : Int))) < 0) = false := decide_eq_false c3
    clear c3
    replace H := Option.bind_eq_some_iff.mp H
    obtain ⟨t397, A60, H⟩ := H
    replace H : (if t397 < 0 then (some (-1)) else ((laws_szStringS.f k l0_2 t397).bind fun t398 => (if t398 < 0 then (some (-1)) else (if (wrap64 (t398 - (a0_3.size : Int))) < 0 then (some (-1)) else (some (wrap64 (t398 - (a0_3.size : Int)))))))) = some r := H
    have A6 := Aside0.mk A60
    clear A60
    by_cases c7 : t397 < 0
    · rw [if_pos c7] at H
      have c7b0 : decide (t397 < 0) = true := decide_eq_true c7
      clear c7
      obtain rfl := Option.some.inj H
      go_enter Try.func54, Try.ntmps54
      go_wp2_with (first | ((with_reducible refine gate_dst (N := 2) rfl ?_); refine box_event ?hg (N := 2) ?hd (cs := #[.string a0_0, .slice A0_1 l0_1.length c0_1, .slice A0_2 l0_2.length c0_2, .string a0_3, .bool a0_4]) (t := 70) ?hr ?_; (case hd => rfl); (case hg => rfl); (case hr => first | (go_simp; done) | (go_simp; rfl)); intro gb396 hg w8 hbox hb; have n0_ := Aside0.mk (below_step (by repeat (first | (with_reducible first | exact HB.out | apply below_alloc | apply pw_below_drewN | apply below_drew1) | exact HB.out)) hb); have n1_ := Aside0.mk (hbox); have n2_ := Aside0.mk ((by rw [hg]; exact (below_size (by repeat (first | (with_reducible first | exact HB.out | apply below_alloc | apply pw_below_drewN | apply below_drew1) | exact HB.out))) : w.heap.size ≤ gb396)); have n3_ := Aside0.mk ((by rw [hg]; exact (below_size (by repeat (first | (with_reducible first | exact HB.out | apply below_alloc | apply pw_below_drewN | apply below_drew1) | exact HB.out))) : w.heap.size ≤ gb396)); clear HB; have HB := n0_; have BK396 := n1_; have GW396 := n2_; have GE396 := n3_; clear n0_ n1_ n2_ n3_; clear hb hbox hg; have hcz9_0 : w8.cell? ⟨gb396, 0, none⟩ = some (.string a0_0) := (blk_cell BK396.out 0).trans rfl; have hcz9_1 : w8.cell? ⟨gb396, 1, none⟩ = some (.slice A0_1 l0_1.length c0_1) := (blk_cell BK396.out 1).trans rfl; have hcz9_2 : w8.cell? ⟨gb396, 2, none⟩ = some (.slice A0_2 l0_2.length c0_2) := (blk_cell BK396.out 2).trans rfl; have hcz9_3 : w8.cell? ⟨gb396, 3, none⟩ = some (.string a0_3) := (blk_cell BK396.out 3).trans rfl; have hcz9_4 : w8.cell? ⟨gb396, 4, none⟩ = some (.bool a0_4) := (blk_cell BK396.out 4).trans rfl; have hfz9_0 := blk_frozen BK396.out 0; have hfz9_1 := blk_frozen BK396.out 1; have hfz9_2 := blk_frozen BK396.out 2; have hfz9_3 := blk_frozen BK396.out 3; have hfz9_4 := blk_frozen BK396.out 4) | ((with_reducible refine gate_callee (f := 19) rfl ?_); refine goesL_ (some 15) rfl rfl Try.func19 (by kernel_rfl) rfl #[.slice A0_1 l0_1.length c0_1, .int .i64 (wrap64 (a1 - (a0_0.size : Int)))] rfl (by (try simp only [List.map_toArray, List.map_cons, List.map_nil]); first | done | rfl | (simp only [List.length_drop, List.length_take]; rfl)) ?_; (with_reducible refine (laws_szStringS.calls k _ _ l0_1 (wrap64 (a1 - (a0_0.size : Int))) t397 _ ?side1 ?side2 A6.out).mono ?_); (case side1 => repeat (first | exact (Kd.C_below HR0_1.out HB.out) | (with_reducible refine Kd.C_alloc ?_ _) | (with_reducible refine Kd.C_drewN ?_ _) | (with_reducible refine Kd.C_drew ?_))); (case side2 => exact HC0_1.out); rintro e w' ⟨rfl, ⟨nd, rfl⟩⟩; refine ⟨_, rfl, ?_⟩))
      go_ret
      exact ⟨by first | rfl | (simp [errW_none, errW_some] <;> rfl) | (simp [*, errW_none, errW_some] <;> rfl), by repeat (first | (with_reducible first | exact HB.out | apply below_alloc | apply pw_below_drewN | apply below_drew1 | refine below_set ?_ GE396.out) | exact HB.out)⟩
    · rw [if_neg c7] at H
      have c7b0 : decide (t397 < 0) = false := decide_eq_false c7
      clear c7
      replace H := Option.bind_eq_some_iff.mp H
      obtain ⟨t398, A100, H⟩ := H
      replace H : (if t398 < 0 then (some (-1)) else (if (wrap64 (t398 - (a0_3.size : Int))) < 0 then (some (-1)) else (some (wrap64 (t398 - (a0_3.size : Int)))))) = some r := H
      have A10 := Aside0.mk A100
      clear A100
      by_cases c11 : t398 < 0
      · rw [if_pos c11] at H
        have c11b0 : decide (t398 < 0) = true := decide_eq_true c11
        clear c11
        obtain rfl := Option.some.inj H
        go_enter Try.func54, Try.ntmps54
        go_wp2_with (first | ((with_reducible refine gate_dst (N := 2) rfl ?_); refine box_event ?hg (N := 2) ?hd (cs := #[.string a0_0, .slice A0_1 l0_1.length c0_1, .slice A0_2 l0_2.length c0_2, .string a0_3, .bool a0_4]) (t := 70) ?hr ?_; (case hd => rfl); (case hg => rfl); (case hr => first | (go_simp; done) | (go_simp; rfl)); intro gb396 hg w12 hbox hb; have n0_ := Aside0.mk (below_step (by repeat (first | (with_reducible first | exact HB.out | apply below_alloc | apply pw_below_drewN | apply below_drew1) | exact HB.out)) hb); have n1_ := Aside0.mk (hbox); have n2_ := Aside0.mk ((by rw [hg]; exact (below_size (by repeat (first | (with_reducible first | exact HB.out | apply below_alloc | apply pw_below_drewN | apply below_drew1) | exact HB.out))) : w.heap.size ≤ gb396)); have n3_ := Aside0.mk ((by rw [hg]; exact (below_size (by repeat (first | (with_reducible first | exact HB.out | apply below_alloc | apply pw_below_drewN | apply below_drew1) | exact HB.out))) : w.heap.size ≤ gb396)); clear HB; have HB := n0_; have BK396 := n1_; have GW396 := n2_; have GE396 := n3_; clear n0_ n1_ n2_ n3_; clear hb hbox hg; have hcz13_0 : w12.cell? ⟨gb396, 0, none⟩ = some (.string a0_0) := (blk_cell BK396.out 0).trans rfl; have hcz13_1 : w12.cell? ⟨gb396, 1, none⟩ = some (.slice A0_1 l0_1.length c0_1) := (blk_cell BK396.out 1).trans rfl; have hcz13_2 : w12.cell? ⟨gb396, 2, none⟩ = some (.slice A0_2 l0_2.length c0_2) := (blk_cell BK396.out 2).trans rfl; have hcz13_3 : w12.cell? ⟨gb396, 3, none⟩ = some (.string a0_3) := (blk_cell BK396.out 3).trans rfl; have hcz13_4 : w12.cell? ⟨gb396, 4, none⟩ = some (.bool a0_4) := (blk_cell BK396.out 4).trans rfl; have hfz13_0 := blk_frozen BK396.out 0; have hfz13_1 := blk_frozen BK396.out 1; have hfz13_2 := blk_frozen BK396.out 2; have hfz13_3 := blk_frozen BK396.out 3; have hfz13_4 := blk_frozen BK396.out 4) | ((with_reducible refine gate_callee (f := 19) rfl ?_); refine goesL_ (some 15) rfl rfl Try.func19 (by kernel_rfl) rfl #[.slice A0_1 l0_1.length c0_1, .int .i64 (wrap64 (a1 - (a0_0.size : Int)))] rfl (by (try simp only [List.map_toArray, List.map_cons, List.map_nil]); first | done | rfl | (simp only [List.length_drop, List.length_take]; rfl)) ?_; (with_reducible refine (laws_szStringS.calls k _ _ l0_1 (wrap64 (a1 - (a0_0.size : Int))) t397 _ ?side1 ?side2 A6.out).mono ?_); (case side1 => repeat (first | exact (Kd.C_below HR0_1.out HB.out) | (with_reducible refine Kd.C_alloc ?_ _) | (with_reducible refine Kd.C_drewN ?_ _) | (with_reducible refine Kd.C_drew ?_))); (case side2 => exact HC0_1.out); rintro e w' ⟨rfl, ⟨nd, rfl⟩⟩; refine ⟨_, rfl, ?_⟩) | ((with_reducible refine gate_callee (f := 19) rfl ?_); refine goesL_ (some 21) rfl rfl Try.func19 (by kernel_rfl) rfl #[.slice A0_2 l0_2.length c0_2, .int .i64 t397] rfl (by (try simp only [List.map_toArray, List.map_cons, List.map_nil]); first | done | rfl | (simp only [List.length_drop, List.length_take]; rfl)) ?_; (with_reducible refine (laws_szStringS.calls k _ _ l0_2 t397 t398 _ ?side1 ?side2 A10.out).mono ?_); (case side1 => repeat (first | exact (Kd.C_below HR0_2.out (by repeat (first | (with_reducible first | exact HB.out | apply below_alloc | apply pw_below_drewN | apply below_drew1 | refine below_set ?_ GE396.out) | exact HB.out))) | (with_reducible refine Kd.C_alloc ?_ _) | (with_reducible refine Kd.C_drewN ?_ _) | (with_reducible refine Kd.C_drew ?_))); (case side2 => exact HC0_2.out); rintro e w' ⟨rfl, ⟨nd, rfl⟩⟩; refine ⟨_, rfl, ?_⟩))
        go_ret
        exact ⟨by first | rfl | (simp [errW_none, errW_some] <;> rfl) | (simp [*, errW_none, errW_some] <;> rfl), by repeat (first | (with_reducible first | exact HB.out | apply below_alloc | apply pw_below_drewN | apply below_drew1 | refine below_set ?_ GE396.out) | exact HB.out)⟩
      · rw [if_neg c11] at H
        have c11b0 : decide (t398 < 0) = false := decide_eq_false c11
        clear c11
        by_cases c14 : (wrap64 (t398 - (a0_3.size : Int))) < 0
        · rw [if_pos c14] at H
          have c14b0 : decide ((wrap64 (t398 - (a0_3.size : Int))) < 0) = true := decide_eq_true c14
          clear c14
          obtain rfl := Option.some.inj H
          go_enter Try.func54, Try.ntmps54
          go_wp2_with (first | ((with_reducible refine gate_dst (N := 2) rfl ?_); refine box_event ?hg (N := 2) ?hd (cs := #[.string a0_0, .slice A0_1 l0_1.length c0_1, .slice A0_2 l0_2.length c0_2, .string a0_3, .bool a0_4]) (t := 70) ?hr ?_; (case hd => rfl); (case hg => rfl); (case hr => first | (go_simp; done) | (go_simp; rfl)); intro gb396 hg w15 hbox hb; have n0_ := Aside0.mk (below_step (by repeat (first | (with_reducible first | exact HB.out | apply below_alloc | apply pw_below_drewN | apply below_drew1) | exact HB.out)) hb); have n1_ := Aside0.mk (hbox); have n2_ := Aside0.mk ((by rw [hg]; exact (below_size (by repeat (first | (with_reducible first | exact HB.out | apply below_alloc | apply pw_below_drewN | apply below_drew1) | exact HB.out))) : w.heap.size ≤ gb396)); have n3_ := Aside0.mk ((by rw [hg]; exact (below_size (by repeat (first | (with_reducible first | exact HB.out | apply below_alloc | apply pw_below_drewN | apply below_drew1) | exact HB.out))) : w.heap.size ≤ gb396)); clear HB; have HB := n0_; have BK396 := n1_; have GW396 := n2_; have GE396 := n3_; clear n0_ n1_ n2_ n3_; clear hb hbox hg; have hcz16_0 : w15.cell? ⟨gb396, 0, none⟩ = some (.string a0_0) := (blk_cell BK396.out 0).trans rfl; have hcz16_1 : w15.cell? ⟨gb396, 1, none⟩ = some (.slice A0_1 l0_1.length c0_1) := (blk_cell BK396.out 1).trans rfl; have hcz16_2 : w15.cell? ⟨gb396, 2, none⟩ = some (.slice A0_2 l0_2.length c0_2) := (blk_cell BK396.out 2).trans rfl; have hcz16_3 : w15.cell? ⟨gb396, 3, none⟩ = some (.string a0_3) := (blk_cell BK396.out 3).trans rfl; have hcz16_4 : w15.cell? ⟨gb396, 4, none⟩ = some (.bool a0_4) := (blk_cell BK396.out 4).trans rfl; have hfz16_0 := blk_frozen BK396.out 0; have hfz16_1 := blk_frozen BK396.out 1; have hfz16_2 := blk_frozen BK396.out 2; have hfz16_3 := blk_frozen BK396.out 3; have hfz16_4 := blk_frozen BK396.out 4) | ((with_reducible refine gate_callee (f := 19) rfl ?_); refine goesL_ (some 15) rfl rfl Try.func19 (by kernel_rfl) rfl #[.slice A0_1 l0_1.length c0_1, .int .i64 (wrap64 (a1 - (a0_0.size : Int)))] rfl (by (try simp only [List.map_toArray, List.map_cons, List.map_nil]); first | done | rfl | (simp only [List.length_drop, List.length_take]; rfl)) ?_; (with_reducible refine (laws_szStringS.calls k _ _ l0_1 (wrap64 (a1 - (a0_0.size : Int))) t397 _ ?side1 ?side2 A6.out).mono ?_); (case side1 => repeat (first | exact (Kd.C_below HR0_1.out HB.out) | (with_reducible refine Kd.C_alloc ?_ _) | (with_reducible refine Kd.C_drewN ?_ _) | (with_reducible refine Kd.C_drew ?_))); (case side2 => exact HC0_1.out); rintro e w' ⟨rfl, ⟨nd, rfl⟩⟩; refine ⟨_, rfl, ?_⟩) | ((with_reducible refine gate_callee (f := 19) rfl ?_); refine goesL_ (some 21) rfl rfl Try.func19 (by kernel_rfl) rfl #[.slice A0_2 l0_2.length c0_2, .int .i64 t397] rfl (by (try simp only [List.map_toArray, List.map_cons, List.map_nil]); first | done | rfl | (simp only [List.length_drop, List.length_take]; rfl)) ?_; (with_reducible refine (laws_szStringS.calls k _ _ l0_2 t397 t398 _ ?side1 ?side2 A10.out).mono ?_); (case side1 => repeat (first | exact (Kd.C_below HR0_2.out (by repeat (first | (with_reducible first | exact HB.out | apply below_alloc | apply pw_below_drewN | apply below_drew1 | refine below_set ?_ GE396.out) | exact HB.out))) | (with_reducible refine Kd.C_alloc ?_ _) | (with_reducible refine Kd.C_drewN ?_ _) | (with_reducible refine Kd.C_drew ?_))); (case side2 => exact HC0_2.out); rintro e w' ⟨rfl, ⟨nd, rfl⟩⟩; refine ⟨_, rfl, ?_⟩))
          go_ret
          exact ⟨by first | rfl | (simp [errW_none, errW_some] <;> rfl) | (simp [*, errW_none, errW_some] <;> rfl), by repeat (first | (with_reducible first | exact HB.out | apply below_alloc | apply pw_below_drewN | apply below_drew1 | refine below_set ?_ GE396.out) | exact HB.out)⟩
        · rw [if_neg c14] at H
          have c14b0 : decide ((wrap64 (t398 - (a0_3.size : Int))) < 0) = false := decide_eq_false c14
          clear c14
          obtain rfl := Option.some.inj H
          go_enter Try.func54, Try.ntmps54
          go_wp2_with (first | ((with_reducible refine gate_dst (N := 2) rfl ?_); refine box_event ?hg (N := 2) ?hd (cs := #[.string a0_0, .slice A0_1 l0_1.length c0_1, .slice A0_2 l0_2.length c0_2, .string a0_3, .bool a0_4]) (t := 70) ?hr ?_; (case hd => rfl); (case hg => rfl); (case hr => first | (go_simp; done) | (go_simp; rfl)); intro gb396 hg w17 hbox hb; have n0_ := Aside0.mk (below_step (by repeat (first | (with_reducible first | exact HB.out | apply below_alloc | apply pw_below_drewN | apply below_drew1) | exact HB.out)) hb); have n1_ := Aside0.mk (hbox); have n2_ := Aside0.mk ((by rw [hg]; exact (below_size (by repeat (first | (with_reducible first | exact HB.out | apply below_alloc | apply pw_below_drewN | apply below_drew1) | exact HB.out))) : w.heap.size ≤ gb396)); have n3_ := Aside0.mk ((by rw [hg]; exact (below_size (by repeat (first | (with_reducible first | exact HB.out | apply below_alloc | apply pw_below_drewN | apply below_drew1) | exact HB.out))) : w.heap.size ≤ gb396)); clear HB; have HB := n0_; have BK396 := n1_; have GW396 := n2_; have GE396 := n3_; clear n0_ n1_ n2_ n3_; clear hb hbox hg; have hcz18_0 : w17.cell? ⟨gb396, 0, none⟩ = some (.string a0_0) := (blk_cell BK396.out 0).trans rfl; have hcz18_1 : w17.cell? ⟨gb396, 1, none⟩ = some (.slice A0_1 l0_1.length c0_1) := (blk_cell BK396.out 1).trans rfl; have hcz18_2 : w17.cell? ⟨gb396, 2, none⟩ = some (.slice A0_2 l0_2.length c0_2) := (blk_cell BK396.out 2).trans rfl; have hcz18_3 : w17.cell? ⟨gb396, 3, none⟩ = some (.string a0_3) := (blk_cell BK396.out 3).trans rfl; have hcz18_4 : w17.cell? ⟨gb396, 4, none⟩ = some (.bool a0_4) := (blk_cell BK396.out 4).trans rfl; have hfz18_0 := blk_frozen BK396.out 0; have hfz18_1 := blk_frozen BK396.out 1; have hfz18_2 := blk_frozen BK396.out 2; have hfz18_3 := blk_frozen BK396.out 3; have hfz18_4 := blk_frozen BK396.out 4) | ((with_reducible refine gate_callee (f := 19) rfl ?_); refine goesL_ (some 15) rfl rfl Try.func19 (by kernel_rfl) rfl #[.slice A0_1 l0_1.length c0_1, .int .i64 (wrap64 (a1 - (a0_0.size : Int)))] rfl (by (try simp only [List.map_toArray, List.map_cons, List.map_nil]); first | done | rfl | (simp only [List.length_drop, List.length_take]; rfl)) ?_; (with_reducible refine (laws_szStringS.calls k _ _ l0_1 (wrap64 (a1 - (a0_0.size : Int))) t397 _ ?side1 ?side2 A6.out).mono ?_); (case side1 => repeat (first | exact (Kd.C_below HR0_1.out HB.out) | (with_reducible refine Kd.C_alloc ?_ _) | (with_reducible refine Kd.C_drewN ?_ _) | (with_reducible refine Kd.C_drew ?_))); (case side2 => exact HC0_1.out); rintro e w' ⟨rfl, ⟨nd, rfl⟩⟩; refine ⟨_, rfl, ?_⟩) | ((with_reducible refine gate_callee (f := 19) rfl ?_); refine goesL_ (some 21) rfl rfl Try.func19 (by kernel_rfl) rfl #[.slice A0_2 l0_2.length c0_2, .int .i64 t397] rfl (by (try simp only [List.map_toArray, List.map_cons, List.map_nil]); first | done | rfl | (simp only [List.length_drop, List.length_take]; rfl)) ?_; (with_reducible refine (laws_szStringS.calls k _ _ l0_2 t397 t398 _ ?side1 ?side2 A10.out).mono ?_); (case side1 => repeat (first | exact (Kd.C_below HR0_2.out (by repeat (first | (with_reducible first | exact HB.out | apply below_alloc | apply pw_below_drewN | apply below_drew1 | refine below_set ?_ GE396.out) | exact HB.out))) | (with_reducible refine Kd.C_alloc ?_ _) | (with_reducible refine Kd.C_drewN ?_ _) | (with_reducible refine Kd.C_drew ?_))); (case side2 => exact HC0_2.out); rintro e w' ⟨rfl, ⟨nd, rfl⟩⟩; refine ⟨_, rfl, ?_⟩))
          go_ret
          exact ⟨by first | rfl | (simp [errW_none, errW_some] <;> rfl) | (simp [*, errW_none, errW_some] <;> rfl), by repeat (first | (with_reducible first | exact HB.out | apply below_alloc | apply pw_below_drewN | apply below_drew1 | refine below_set ?_ GE396.out) | exact HB.out)⟩
end Go.Proofs.Ytnjmhlhlmokjnaa.G
namespace Go.Proofs.Ytnjmhlhlmokjnaa.G
open Go.RowKit Go.Proofs.YtnjmhlhlmokjnaaW.PrintWords Go.Proofs.YtnjmhlhlmokjnaaW.PrintLast Go.Proofs.YtnjmhlhlmokjnaaW.PrintMore
attribute [local go_sem] max2_int min2_int max_two min_two max_three min_three max_four min_four
set_option linter.unusedVariables false
set_option linter.unusedSimpArgs false
def laws_szUnitS.l0 : Nat → List (S70) → Int → Int → Option (Int)
  | 0, _, _, _ => none
  | k + 1, x0, x1, x5 => if x5 < (x0.length : Int) then (if 0 ≤ x5 then ((laws_szUnit.f k ((rd_T70 x0 x5).f0) ((rd_T70 x0 x5).f1) ((rd_T70 x0 x5).f2) ((rd_T70 x0 x5).f3) ((rd_T70 x0 x5).f4) x1).bind fun t400 => (if t400 < 0 then (some (-1)) else (laws_szUnitS.l0 k x0 t400 (wrap64 (x5 + 1))))) else (none)) else (some x1)
def laws_szUnitS.f (k : Nat) (l0 : List (S70)) (a1 : Int) : Option (Int) := if (wrap64 (a1 - (l0.length : Int))) < 0 then (some (-1)) else (laws_szUnitS.l0 k l0 (wrap64 (a1 - (l0.length : Int))) 0)
set_option maxHeartbeats 8000000 in
set_option maxRecDepth 100000 in
theorem laws_szUnitS.calls (k : Nat) (A0 : Option Addr) (c0 : Nat) (l0 : List (S70)) (a1 : Int) (r : Int) (w : World) (hr0 : Kd.C k70 w A0 l0.length l0) (hc0 : l0.length ≤ c0) (h : laws_szUnitS.f k l0 a1 = some r) :
    Calls Try.prog 18 #[.slice A0 l0.length c0, .int .i64 a1] w fun e w' => e = .returned (.int .i64 r) ∧ Below w.heap.size w w' := by
  have hu70 := Try.underlying70
  have HR0 := Aside0.mk hr0
  have HC0 := Aside0.mk hc0
  clear hr0 hc0
  have HB := Aside0.mk (Below.refl w.heap.size w)
  have H : (if (wrap64 (a1 - (l0.length : Int))) < 0 then (some (-1)) else (laws_szUnitS.l0 k l0 (wrap64 (a1 - (l0.length : Int))) 0)) = some r := h
  clear h
  by_cases c3 : (wrap64 (a1 - (l0.length : Int))) < 0
  · rw [if_pos c3] at H
    have c3b0 : decide ((wrap64 (a1 - (l0.length : Int))) < 0) = true := decide_eq_true c3
    clear c3
    obtain rfl := Option.some.inj H
    go_enter Try.func18, Try.ntmps18
    go_wp2
    go_ret
    exact ⟨by first | rfl | (simp [errW_none, errW_some] <;> rfl) | (simp [*, errW_none, errW_some] <;> rfl), by repeat (first | (with_reducible first | exact HB.out | apply below_alloc | apply pw_below_drewN | apply below_drew1) | exact HB.out)⟩
  · rw [if_neg c3] at H
    have c3b0 : decide ((wrap64 (a1 - (l0.length : Int))) < 0) = false := decide_eq_false c3
    clear c3
    have H' := Aside0.mk H
    clear H
    go_enter Try.func18, Try.ntmps18
    go_wp2
    go_loopg [1, 5] k (fun kq v1 v5 w' => ∃ (x1_1 : Int) (x5_1 : Int), v1 = .int .i64 x1_1 ∧ v5 = .int .i64 x5_1 ∧ Aside0 (laws_szUnitS.l0 kq l0 x1_1 x5_1 = some r) ∧ Aside0 (kq ≤ k) ∧ Aside0 (Below w.heap.size w w'))
    case atStart => exact ⟨(wrap64 (a1 - (l0.length : Int))), (0), (by first | rfl | (simp; done) | (simp [*]; done)), (by first | rfl | (simp; done) | (simp [*]; done)), H', ⟨Nat.le_refl _⟩, ⟨by repeat (first | (with_reducible first | exact HB.out | apply below_alloc | apply pw_below_drewN | apply below_drew1) | exact HB.out)⟩⟩
    case round =>
      clear H'
      try clear c1
      try clear p2
      try clear c3
      try clear c3b0
      obtain ⟨x1_1, x5_1, rfl, rfl, HA, HK1, HB⟩ := hrel
      cases gk with
      | zero => exact absurd HA.out (by simp [laws_szUnitS.l0])
      | succ k1 =>
        have H := HA.out
        clear HA
        simp only [laws_szUnitS.l0] at H
        by_cases c4 : x5_1 < (l0.length : Int)
        · rw [if_pos c4] at H
          have c4b0 : decide (x5_1 < (l0.length : Int)) = true := decide_eq_true c4
          clear c4
          by_cases c5 : 0 ≤ x5_1
          · rw [if_pos c5] at H
            have c5b0 : decide (0 ≤ x5_1) = true := decide_eq_true c5
            clear c5
            replace H := Option.bind_eq_some_iff.mp H
            obtain ⟨t400, A60, H⟩ := H
            replace H : (if t400 < 0 then (some (-1)) else (laws_szUnitS.l0 k1 l0 t400 (wrap64 (x5_1 + 1)))) = some r := H
            have A6 := Aside0.mk A60
            clear A60
            by_cases c7 : t400 < 0
            · rw [if_pos c7] at H
              have c7b0 : decide (t400 < 0) = true := decide_eq_true c7
              clear c7
              obtain rfl := Option.some.inj H
              have p399 : 0 ≤ (x5_1 : Int) := of_decide_eq_true (by first | (with_reducible assumption) | assumption)
              have q399 : x5_1 < (l0.length : Int) := of_decide_eq_true (by first | (with_reducible assumption) | assumption)
              obtain ⟨ad399, A399_1, c399_1, A399_2, c399_2, e399, hx399_0, hx399_1, hx399_2, hx399_3, hx399_4, hl399_1, hi399_1, hl399_2, hi399_2⟩ := at_T70 HR0.out x5_1 p399 q399
              cases e399
              replace hx399_0 := (HB.out.cell (World.block_lt_of_cell? w _ hx399_0)).trans hx399_0
              replace hx399_1 := (HB.out.cell (World.block_lt_of_cell? w _ hx399_1)).trans hx399_1
              replace hx399_2 := (HB.out.cell (World.block_lt_of_cell? w _ hx399_2)).trans hx399_2
              replace hx399_3 := (HB.out.cell (World.block_lt_of_cell? w _ hx399_3)).trans hx399_3
              replace hx399_4 := (HB.out.cell (World.block_lt_of_cell? w _ hx399_4)).trans hx399_4
              have HR399_1 := Aside0.mk hi399_1
              have HC399_1 := Aside0.mk hl399_1
              clear hi399_1 hl399_1
              have HR399_2 := Aside0.mk hi399_2
              have HC399_2 := Aside0.mk hl399_2
              clear hi399_2 hl399_2
              replace p399 := eq_true p399
              replace q399 := eq_true q399
              go_wp2_with (first | ((with_reducible refine gate_callee (f := 54) rfl ?_); refine goesL_ (some 23) rfl rfl Try.func54 (by kernel_rfl) rfl #[.agg #[.string ((rd_T70 l0 x5_1).f0), .slice A399_1 ((rd_T70 l0 x5_1).f1).length c399_1, .slice A399_2 ((rd_T70 l0 x5_1).f2).length c399_2, .string ((rd_T70 l0 x5_1).f3), .bool ((rd_T70 l0 x5_1).f4)], .int .i64 x1_1] rfl (by (try simp only [List.map_toArray, List.map_cons, List.map_nil]); first | done | rfl | (simp only [List.length_drop, List.length_take]; rfl)) ?_; (with_reducible refine (laws_szUnit.calls k1 ((rd_T70 l0 x5_1).f0) _ _ ((rd_T70 l0 x5_1).f1) _ _ ((rd_T70 l0 x5_1).f2) ((rd_T70 l0 x5_1).f3) ((rd_T70 l0 x5_1).f4) x1_1 t400 _ ?side1 ?side2 ?side3 ?side4 A6.out).mono ?_); (case side1 => repeat (first | exact (Kd.C_below HR399_1.out HB.out) | (with_reducible refine Kd.C_alloc ?_ _) | (with_reducible refine Kd.C_drewN ?_ _) | (with_reducible refine Kd.C_drew ?_))); (case side2 => exact HC399_1.out); (case side3 => repeat (first | exact (Kd.C_below HR399_2.out HB.out) | (with_reducible refine Kd.C_alloc ?_ _) | (with_reducible refine Kd.C_drewN ?_ _) | (with_reducible refine Kd.C_drew ?_))); (case side4 => exact HC399_2.out); rintro e w8 ⟨rfl, hb⟩; refine ⟨_, rfl, ?_⟩; have n0_ := Aside0.mk (below_step (by repeat (first | (with_reducible first | exact HB.out | apply below_alloc | apply pw_below_drewN | apply below_drew1) | exact HB.out)) hb); clear HB; have HB := n0_; clear n0_; (try clear hb); (try clear hb2); (try clear hk); (try clear hi)))
              go_ret
              exact ⟨by first | rfl | (simp [errW_none, errW_some] <;> rfl) | (simp [*, errW_none, errW_some] <;> rfl), by repeat (first | (with_reducible first | exact HB.out | apply below_alloc | apply pw_below_drewN | apply below_drew1) | exact HB.out)⟩
            · rw [if_neg c7] at H
              have c7b0 : decide (t400 < 0) = false := decide_eq_false c7
              clear c7
              have H' := Aside0.mk H
              clear H
              have p399 : 0 ≤ (x5_1 : Int) := of_decide_eq_true (by first | (with_reducible assumption) | assumption)
              have q399 : x5_1 < (l0.length : Int) := of_decide_eq_true (by first | (with_reducible assumption) | assumption)
              obtain ⟨ad399, A399_1, c399_1, A399_2, c399_2, e399, hx399_0, hx399_1, hx399_2, hx399_3, hx399_4, hl399_1, hi399_1, hl399_2, hi399_2⟩ := at_T70 HR0.out x5_1 p399 q399
              cases e399
              replace hx399_0 := (HB.out.cell (World.block_lt_of_cell? w _ hx399_0)).trans hx399_0
              replace hx399_1 := (HB.out.cell (World.block_lt_of_cell? w _ hx399_1)).trans hx399_1
              replace hx399_2 := (HB.out.cell (World.block_lt_of_cell? w _ hx399_2)).trans hx399_2
              replace hx399_3 := (HB.out.cell (World.block_lt_of_cell? w _ hx399_3)).trans hx399_3
              replace hx399_4 := (HB.out.cell (World.block_lt_of_cell? w _ hx399_4)).trans hx399_4
              have HR399_1 := Aside0.mk hi399_1
              have HC399_1 := Aside0.mk hl399_1
              clear hi399_1 hl399_1
              have HR399_2 := Aside0.mk hi399_2
              have HC399_2 := Aside0.mk hl399_2
              clear hi399_2 hl399_2
              replace p399 := eq_true p399
              replace q399 := eq_true q399
              go_wp2_with (first | ((with_reducible refine gate_callee (f := 54) rfl ?_); refine goesL_ (some 23) rfl rfl Try.func54 (by kernel_rfl) rfl #[.agg #[.string ((rd_T70 l0 x5_1).f0), .slice A399_1 ((rd_T70 l0 x5_1).f1).length c399_1, .slice A399_2 ((rd_T70 l0 x5_1).f2).length c399_2, .string ((rd_T70 l0 x5_1).f3), .bool ((rd_T70 l0 x5_1).f4)], .int .i64 x1_1] rfl (by (try simp only [List.map_toArray, List.map_cons, List.map_nil]); first | done | rfl | (simp only [List.length_drop, List.length_take]; rfl)) ?_; (with_reducible refine (laws_szUnit.calls k1 ((rd_T70 l0 x5_1).f0) _ _ ((rd_T70 l0 x5_1).f1) _ _ ((rd_T70 l0 x5_1).f2) ((rd_T70 l0 x5_1).f3) ((rd_T70 l0 x5_1).f4) x1_1 t400 _ ?side1 ?side2 ?side3 ?side4 A6.out).mono ?_); (case side1 => repeat (first | exact (Kd.C_below HR399_1.out HB.out) | (with_reducible refine Kd.C_alloc ?_ _) | (with_reducible refine Kd.C_drewN ?_ _) | (with_reducible refine Kd.C_drew ?_))); (case side2 => exact HC399_1.out); (case side3 => repeat (first | exact (Kd.C_below HR399_2.out HB.out) | (with_reducible refine Kd.C_alloc ?_ _) | (with_reducible refine Kd.C_drewN ?_ _) | (with_reducible refine Kd.C_drew ?_))); (case side4 => exact HC399_2.out); rintro e w9 ⟨rfl, hb⟩; refine ⟨_, rfl, ?_⟩; have n0_ := Aside0.mk (below_step (by repeat (first | (with_reducible first | exact HB.out | apply below_alloc | apply pw_below_drewN | apply below_drew1) | exact HB.out)) hb); clear HB; have HB := n0_; clear n0_; (try clear hb); (try clear hb2); (try clear hk); (try clear hi)))
              go_roundg k1
              case measure => have := HK1.out; omega
              case rel => exact ⟨(t400), (wrap64 (x5_1 + 1)), (by first | rfl | (simp; done) | (simp [*]; done)), (by first | rfl | (simp; done) | (simp [*]; done)), H', ⟨by have := HK1.out; omega⟩, ⟨by repeat (first | (with_reducible first | exact HB.out | apply below_alloc | apply pw_below_drewN | apply below_drew1) | exact HB.out)⟩⟩
          · rw [if_neg c5] at H
            exact absurd H (by simp)
        · rw [if_neg c4] at H
          have c4b0 : decide (x5_1 < (l0.length : Int)) = false := decide_eq_false c4
          clear c4
          obtain rfl := Option.some.inj H
          go_wp2
          go_ret
          exact ⟨by first | rfl | (simp [errW_none, errW_some] <;> rfl) | (simp [*, errW_none, errW_some] <;> rfl), by repeat (first | (with_reducible first | exact HB.out | apply below_alloc | apply pw_below_drewN | apply below_drew1) | exact HB.out)⟩
end Go.Proofs.Ytnjmhlhlmokjnaa.G
namespace Go.Proofs.Ytnjmhlhlmokjnaa.G
open Go.RowKit Go.Proofs.YtnjmhlhlmokjnaaW.PrintWords Go.Proofs.YtnjmhlhlmokjnaaW.PrintLast
set_option linter.unusedVariables false
set_option linter.unusedSimpArgs false
theorem wrap_up (i d n : Nat) (hn : n ≤ 9223372036854775807) (h : i + (d + 1) = n) : wrap64 ((i : Int) + 1) = ((i + 1 : Nat) : Int) := by
  rw [wrap_id (by omega) (by omega)]; omega
theorem strOfNums_one (x : Int) : (strOfNums [x]).size = 1 := by rfl
theorem append_size (a b : ByteArray) : (a ++ b).size = a.size + b.size := ByteArray.size_append
theorem markText_loop (d : Nat) : ∀ (a : Int) (s : ByteArray), a.toNat ≤ d → s.size + a.toNat ≤ 4611686018427387904 → ∃ r, Ev (fun k => laws_markText.l0 k a s) r := by
  induction d with
  | zero =>
    intro a s ha hs
    exact ⟨_, Ev.step (f := fun _ => some _) (fun k => by rw [laws_markText.l0, if_neg (by omega), if_pos (by omega)]) (Ev.now _)⟩
  | succ d ih =>
    intro a s ha hs
    by_cases hp : a > 0
    · have ht : Int.tdiv a 10 = a / 10 := Int.tdiv_eq_ediv_of_nonneg (by omega)
      have hw : wrap64 (Int.tdiv a 10) = a / 10 := by rw [ht]; exact wrap_id (by omega) (by omega)
      obtain ⟨y, hy⟩ : ∃ y, y = strOfNums [(wrap64 (48 + (Int.tmod a 10))) % 256] := ⟨_, rfl⟩
      have hys : y.size = 1 := by rw [hy]; exact strOfNums_one _
      obtain ⟨r, hr⟩ := ih (a / 10) (y ++ s) (by omega) (by rw [append_size, hys]; omega)
      refine ⟨r, Ev.step (f := fun k => laws_markText.l0 k (a / 10) (y ++ s)) (fun k => ?_) hr⟩
      rw [laws_markText.l0, if_pos hp, Option.bind_some, hw, ← hy, hys, if_pos (by omega)]
    · exact ⟨_, Ev.step (f := fun _ => some _) (fun k => by rw [laws_markText.l0, if_neg hp, if_pos (by omega)]) (Ev.now _)⟩
theorem markText_ex (a : Int) (h : a ≤ 4611686018427387904) : ∃ r, Ev (fun k => laws_markText.f k a) r := by
  by_cases hp : a ≤ 0
  · exact ⟨_, Ev.congr (fun k => by unfold laws_markText.f; rw [if_pos hp]) (Ev.now _)⟩
  · obtain ⟨r, hr⟩ := markText_loop a.toNat a ⟨#[]⟩ (Nat.le_refl _) (by show 0 + _ ≤ _; omega)
    exact ⟨r, Ev.congr (fun k => by unfold laws_markText.f; rw [if_neg hp]) hr⟩
open Classical in
noncomputable def mtext (a : Int) : ByteArray := if h : ∃ r, Ev (fun k => laws_markText.f k a) r then Classical.choose h else ByteArray.empty
theorem markText_ev (a : Int) (h : a ≤ 4611686018427387904) : Ev (fun k => laws_markText.f k a) (mtext a) := by
  unfold mtext
  rw [dif_pos (markText_ex a h)]
  exact Classical.choose_spec (markText_ex a h)
theorem markText_c (a : Int) (h : a ≤ 4611686018427387904) (w : World) : Calls Try.prog 57 #[.int .i64 a] w fun e w' => e = .returned (.string (mtext a)) ∧ Below w.heap.size w w' := by
  obtain ⟨k, hk⟩ := (markText_ev a h).rounds
  exact laws_markText.calls k a _ w hk
structure Marked (i : Nat) (a : Int) (l r : List ByteArray) : Prop where
  len : r.length = l.length
  low : ∀ j, j < i → r[j]? = l[j]?
  high : ∀ j, i ≤ j → j < l.length → r[j]? = some (mtext (a + ((j - i : Nat) : Int)))
theorem mark_loop (d : Nat) : ∀ (i : Nat) (l : List ByteArray) (a : Int), i + d = l.length → l.length ≤ 1048576 → 0 ≤ a → a + d ≤ 1152921504606846976 →
    ∃ r, Ev (fun k => laws_markStringS.l0 k l a (i : Int)) (a + d, r) ∧ Marked i a l r := by
  induction d with
  | zero =>
    intro i l a hi hl h0 ha
    refine ⟨l, Ev.step (f := fun _ => some (a + (0 : Nat), l)) (fun k => ?_) (Ev.now _), rfl, fun _ _ => rfl, fun j h1 h2 => by omega⟩
    rw [laws_markStringS.l0, if_neg (by omega)]
    simp
  | succ d ih =>
    intro i l a hi hl h0 ha
    have hw := wrap_up i d l.length (by omega) hi
    have hwa : wrap64 (a + 1) = a + 1 := wrap_id (by omega) (by omega)
    obtain ⟨r, hr, hm⟩ := ih (i + 1) (l.set i (mtext a)) (a + 1) (by rw [List.length_set]; omega) (by rw [List.length_set]; omega) (by omega) (by omega)
    refine ⟨r, Ev.step (f := fun k => (laws_markText.f k a).bind fun t => laws_markStringS.l0 k (l.set i t) (a + 1) ((i + 1 : Nat) : Int)) (fun k => ?_) (Ev.bind (markText_ev a (by omega)) ?_), ?_, fun j hj => ?_, fun j h1 h2 => ?_⟩
    · rw [laws_markStringS.l0, if_pos (by omega), hw, hwa]
      simp only [if_pos (show (0 : Int) ≤ (i : Int) by omega), Int.toNat_natCast]
    · have e : a + 1 + (d : Int) = a + ((d + 1 : Nat) : Int) := by omega
      rw [← e]
      exact hr
    · rw [hm.len, List.length_set]
    · rw [hm.low j (by omega), List.getElem?_set_ne (by omega)]
    · by_cases hj : j = i
      · subst hj
        rw [hm.low j (by omega), List.getElem?_set_self h2]
        simp
      · rw [hm.high j (by omega) (by rw [List.length_set]; exact h2)]
        congr 2
        omega
theorem mark_ev (l : List ByteArray) (a : Int) (hl : l.length ≤ 1048576) (h0 : 0 ≤ a) (ha : a + l.length ≤ 1152921504606846976) :
    ∃ r, Ev (fun k => laws_markStringS.f k l a) (a + l.length, r) ∧ Marked 0 a l r := mark_loop l.length 0 l a (by omega) hl h0 ha
theorem eqs_loop (l : List ByteArray) (hl : l.length ≤ 9223372036854775807) (d : Nat) : ∀ i : Nat, i + d = l.length → Ev (fun k => laws_eqStringS.l0 k l l (i : Int)) true := by
  induction d with
  | zero =>
    intro i hi
    exact Ev.step (f := fun _ => some true) (fun k => by rw [laws_eqStringS.l0, if_neg (by omega)]) (Ev.now _)
  | succ d ih =>
    intro i hi
    have hw := wrap_up i d l.length hl hi
    exact Ev.step (fun k => by rw [laws_eqStringS.l0, hw, if_pos (by omega), if_pos (by omega), if_pos (by omega), if_pos rfl]) (ih (i + 1) (by omega))
theorem eqs_ev (l : List ByteArray) (hl : l.length ≤ 9223372036854775807) : Ev (fun k => laws_eqStringS.f k l l) true :=
  Ev.congr (fun k => by unfold laws_eqStringS.f; rw [if_pos rfl]; rfl) (eqs_loop l hl l.length 0 (by omega))
def lenOk (u : S32) : Prop := u.f1.length ≤ 1048576 ∧ u.f2.length ≤ 1048576
theorem equ_ev (u : S32) (h : lenOk u) : Ev (fun k => laws_eqUnit.f k u.f0 u.f1 u.f2 u.f3 u.f4 u.f0 u.f1 u.f2 u.f3 u.f4) true := by
  refine Ev.congr (f := fun k => (laws_eqStringS.f k u.f1 u.f1).bind fun t => if t = true then ((laws_eqStringS.f k u.f2 u.f2).bind fun t => if t = true then some true else some false) else some false) (fun k => ?_) ?_
  · unfold laws_eqUnit.f
    rw [if_pos rfl, if_pos rfl]
    cases u.f4 <;> rfl
  · exact Ev.bind (eqs_ev _ (by have := h.1; omega)) (Ev.congr (fun k => if_pos rfl) (Ev.bind (eqs_ev _ (by have := h.2; omega)) (Ev.congr (fun k => if_pos rfl) (Ev.now _))))
theorem equs_loop (l : List S32) (hl : l.length ≤ 1048576) (hu : ∀ u ∈ l, lenOk u) (d : Nat) : ∀ i : Nat, i + d = l.length → Ev (fun k => laws_eqUnitS.l0 k l l (i : Int)) true := by
  induction d with
  | zero =>
    intro i hi
    exact Ev.step (f := fun _ => some true) (fun k => by rw [laws_eqUnitS.l0, if_neg (by omega)]) (Ev.now _)
  | succ d ih =>
    intro i hi
    have hw := wrap_up i d l.length (by omega) hi
    have hil : i < l.length := by omega
    exact Ev.step (fun k => by rw [laws_eqUnitS.l0, hw, if_pos (by omega), if_pos (by omega), if_pos (by omega), rd_T32_nat l i hil]) (Ev.bind (equ_ev l[i] (hu _ (List.getElem_mem hil))) (Ev.congr (fun k => if_pos rfl) (ih (i + 1) (by omega))))
theorem equs_ev (l : List S32) (hl : l.length ≤ 1048576) (hu : ∀ u ∈ l, lenOk u) : Ev (fun k => laws_eqUnitS.f k l l) true :=
  Ev.congr (fun k => by unfold laws_eqUnitS.f; rw [if_pos rfl]; rfl) (equs_loop l hl hu l.length 0 (by omega))
theorem tos_loop (l : List ByteArray) (hl : l.length ≤ 1048576) (d : Nat) : ∀ (i : Nat) (o : List ByteArray), i + d = l.length → o.length = l.length → o.take i = l.take i → Ev (fun k => laws_toStringS.l0 k l o (i : Int)) l := by
  induction d with
  | zero =>
    intro i o hi ho he
    have : o = l := by rwa [List.take_of_length_le (by omega), List.take_of_length_le (by omega)] at he
    subst this
    exact Ev.step (f := fun _ => some o) (fun k => by rw [laws_toStringS.l0, if_neg (by omega)]) (Ev.now _)
  | succ d ih =>
    intro i o hi ho he
    have hw := wrap_up i d l.length (by omega) hi
    have hil : i < l.length := by omega
    refine Ev.step (fun k => by rw [laws_toStringS.l0, hw, if_pos (by omega), if_pos (by omega), if_pos (by omega), rdOf_nat _ l i hil, Int.toNat_natCast]) (ih (i + 1) (o.set i l[i]) (by omega) (by rw [List.length_set]; exact ho) ?_)
    rw [List.take_succ_eq_append_getElem (by rw [List.length_set]; omega), List.take_succ_eq_append_getElem hil, List.getElem_set_self, List.take_set_of_le (Nat.le_refl _), he]
theorem tos_ev (l : List ByteArray) (hl : l.length ≤ 1048576) : Ev (fun k => laws_toStringS.f k l) l :=
  Ev.congr (fun k => by unfold laws_toStringS.f; rw [if_pos (by omega), if_pos (by omega)]; rfl) (tos_loop l hl l.length 0 (List.replicate l.length ⟨#[]⟩) (by omega) (by simp) rfl)
def conv (u : S70) : S32 := ⟨u.f0, u.f1, u.f2, u.f3, u.f4⟩
theorem rd_T70_nat (l : List S70) (i : Nat) (h : i < l.length) : rd_T70 l (i : Int) = l[i] := by
  unfold rd_T70
  rw [Int.toNat_natCast, List.getD_eq_getElem?_getD, List.getElem?_eq_getElem h]
  rfl
theorem tou_loop (l : List S70) (hl : l.length ≤ 1048576) (hu : ∀ u ∈ l, lenOk (conv u)) (d : Nat) : ∀ (i : Nat) (o : List S32), i + d = l.length → o.length = l.length → o.take i = (l.map conv).take i → Ev (fun k => laws_toUnitS.l0 k l o (i : Int)) (l.map conv) := by
  induction d with
  | zero =>
    intro i o hi ho he
    have : o = l.map conv := by rwa [List.take_of_length_le (by omega), List.take_of_length_le (by rw [List.length_map]; omega)] at he
    subst this
    exact Ev.step (f := fun _ => some (l.map conv)) (fun k => by rw [laws_toUnitS.l0, if_neg (by omega)]) (Ev.now _)
  | succ d ih =>
    intro i o hi ho he
    have hw := wrap_up i d l.length (by omega) hi
    have hil : i < l.length := by omega
    have hk := hu _ (List.getElem_mem hil)
    have hstep : Ev (fun k => laws_toUnit.f k l[i].f0 l[i].f1 l[i].f2 l[i].f3 l[i].f4) (l[i].f0, l[i].f1, l[i].f2, l[i].f3, l[i].f4) :=
      Ev.congr (fun k => by unfold laws_toUnit.f; rfl) (Ev.bind (tos_ev l[i].f1 hk.1) (Ev.bind (f := fun _ t412 => some (l[i].f0, l[i].f1, t412, l[i].f3, l[i].f4)) (tos_ev l[i].f2 hk.2) (Ev.now _)))
    refine Ev.step (fun k => by rw [laws_toUnitS.l0, hw, if_pos (by omega), if_pos (by omega), rd_T70_nat l i hil]) (Ev.bind hstep (Ev.congr (fun k => by rw [if_pos (by omega), Int.toNat_natCast]; rfl) (ih (i + 1) (o.set i (conv l[i])) (by omega) (by rw [List.length_set]; exact ho) ?_)))
    rw [List.take_succ_eq_append_getElem (by rw [List.length_set]; omega), List.take_succ_eq_append_getElem (by rw [List.length_map]; exact hil), List.getElem_set_self, List.take_set_of_le (Nat.le_refl _), he, List.getElem_map]
theorem tou_ev (l : List S70) (hl : l.length ≤ 1048576) (hu : ∀ u ∈ l, lenOk (conv u)) : Ev (fun k => laws_toUnitS.f k l) (l.map conv) :=
  Ev.congr (fun k => by unfold laws_toUnitS.f; rw [if_pos (by omega), if_pos (by omega)]; rfl) (tou_loop l hl hu l.length 0 (List.replicate l.length z32) (by omega) (by simp) rfl)
theorem szs_loop (l : List ByteArray) (hl : l.length ≤ 9223372036854775807) (hz : ∀ s ∈ l, s.size ≤ 9223372036854775807) (d : Nat) : ∀ (i : Nat) (a : Int), i + d = l.length → 0 ≤ a → a ≤ 1048576 →
    ∃ r, Ev (fun k => laws_szStringS.l0 k l a (i : Int)) r ∧ -1 ≤ r ∧ r ≤ a := by
  induction d with
  | zero =>
    intro i a hi h0 ha
    exact ⟨a, Ev.step (f := fun _ => some a) (fun k => by rw [laws_szStringS.l0, if_neg (by omega)]) (Ev.now _), by omega, Int.le_refl _⟩
  | succ d ih =>
    intro i a hi h0 ha
    have hw := wrap_up i d l.length hl hi
    have hil : i < l.length := by omega
    have hs := hz _ (List.getElem_mem hil)
    have hwa : wrap64 (a - (l[i].size : Int)) = a - (l[i].size : Int) := wrap_id (by omega) (by omega)
    by_cases hneg : a - (l[i].size : Int) < 0
    · refine ⟨-1, Ev.step (f := fun _ => some (-1)) (fun k => ?_) (Ev.now _), by omega, by omega⟩
      rw [laws_szStringS.l0, if_pos (by omega), if_pos (by omega), rdOf_nat _ l i hil, hwa, if_pos hneg]
    · obtain ⟨r, hr, h1, h2⟩ := ih (i + 1) (a - (l[i].size : Int)) (by omega) (by omega) (by omega)
      refine ⟨r, Ev.step (fun k => ?_) hr, h1, by omega⟩
      rw [laws_szStringS.l0, if_pos (by omega), if_pos (by omega), rdOf_nat _ l i hil, hwa, if_neg hneg, hw]
theorem szs_ev (l : List ByteArray) (hl : l.length ≤ 9223372036854775807) (hz : ∀ s ∈ l, s.size ≤ 9223372036854775807) (a : Int) (h0 : 0 ≤ a) (ha : a ≤ 1048576) :
    ∃ r, Ev (fun k => laws_szStringS.f k l a) r ∧ -1 ≤ r ∧ (0 ≤ r → r + l.length ≤ a) := by
  have hwa : wrap64 (a - (l.length : Int)) = a - (l.length : Int) := wrap_id (by omega) (by omega)
  by_cases hneg : a - (l.length : Int) < 0
  · exact ⟨-1, Ev.congr (f := fun _ => some (-1)) (fun k => by unfold laws_szStringS.f; rw [hwa, if_pos hneg]) (Ev.now _), by omega, by omega⟩
  · obtain ⟨r, hr, h1, h2⟩ := szs_loop l hl hz l.length 0 (a - (l.length : Int)) (by omega) (by omega) (by omega)
    exact ⟨r, Ev.congr (fun k => by unfold laws_szStringS.f; rw [hwa, if_neg hneg]; rfl) hr, h1, by omega⟩
def textsOk (l : List ByteArray) : Prop := l.length ≤ 9223372036854775807 ∧ ∀ s ∈ l, s.size ≤ 9223372036854775807
def unitRaw (u : S70) : Prop := u.f0.size ≤ 9223372036854775807 ∧ textsOk u.f1 ∧ textsOk u.f2 ∧ u.f3.size ≤ 9223372036854775807
theorem szu_ev (u : S70) (h : unitRaw u) (a : Int) (h0 : 0 ≤ a) (ha : a ≤ 1048576) :
    ∃ r, Ev (fun k => laws_szUnit.f k u.f0 u.f1 u.f2 u.f3 u.f4 a) r ∧ -1 ≤ r ∧ (0 ≤ r → r + u.f1.length + u.f2.length ≤ a) := by
  obtain ⟨z0, ⟨z1, y1⟩, ⟨z2, y2⟩, z3⟩ := h
  have hwa : wrap64 (a - (u.f0.size : Int)) = a - (u.f0.size : Int) := wrap_id (by omega) (by omega)
  by_cases hneg : a - (u.f0.size : Int) < 0
  · exact ⟨-1, Ev.congr (f := fun _ => some (-1)) (fun k => by unfold laws_szUnit.f; rw [hwa, if_pos hneg]) (Ev.now _), by omega, by omega⟩
  · obtain ⟨r1, hr1, p1, q1⟩ := szs_ev u.f1 z1 y1 (a - (u.f0.size : Int)) (by omega) (by omega)
    by_cases n1 : r1 < 0
    · refine ⟨-1, Ev.congr (fun k => by unfold laws_szUnit.f; rw [hwa, if_neg hneg]) (Ev.bind hr1 (Ev.congr (f := fun _ => some (-1)) (fun k => if_pos n1) (Ev.now _))), by omega, by omega⟩
    · obtain ⟨r2, hr2, p2, q2⟩ := szs_ev u.f2 z2 y2 r1 (by omega) (by omega)
      by_cases n2 : r2 < 0
      · refine ⟨-1, Ev.congr (fun k => by unfold laws_szUnit.f; rw [hwa, if_neg hneg]) (Ev.bind hr1 (Ev.congr (fun k => if_neg n1) (Ev.bind hr2 (Ev.congr (f := fun _ => some (-1)) (fun k => if_pos n2) (Ev.now _))))), by omega, by omega⟩
      · have hw3 : wrap64 (r2 - (u.f3.size : Int)) = r2 - (u.f3.size : Int) := wrap_id (by omega) (by omega)
        by_cases n3 : r2 - (u.f3.size : Int) < 0
        · refine ⟨-1, Ev.congr (fun k => by unfold laws_szUnit.f; rw [hwa, if_neg hneg]) (Ev.bind hr1 (Ev.congr (fun k => if_neg n1) (Ev.bind hr2 (Ev.congr (f := fun _ => some (-1)) (fun k => by rw [if_neg n2, hw3, if_pos n3]) (Ev.now _))))), by omega, by omega⟩
        · refine ⟨r2 - (u.f3.size : Int), Ev.congr (fun k => by unfold laws_szUnit.f; rw [hwa, if_neg hneg]) (Ev.bind hr1 (Ev.congr (fun k => if_neg n1) (Ev.bind hr2 (Ev.congr (f := fun _ => some (r2 - (u.f3.size : Int))) (fun k => by rw [if_neg n2, hw3, if_neg n3]) (Ev.now _))))), by omega, by omega⟩
def rowsLen (l : List S70) : Nat := (l.map (fun u => u.f1.length + u.f2.length)).sum
theorem szus_loop (l : List S70) (hl : l.length ≤ 9223372036854775807) (hz : ∀ u ∈ l, unitRaw u) (d : Nat) : ∀ (i : Nat) (a : Int), i + d = l.length → 0 ≤ a → a ≤ 1048576 →
    ∃ r, Ev (fun k => laws_szUnitS.l0 k l a (i : Int)) r ∧ -1 ≤ r ∧ (0 ≤ r → r + rowsLen (l.drop i) ≤ a) := by
  induction d with
  | zero =>
    intro i a hi h0 ha
    refine ⟨a, Ev.step (f := fun _ => some a) (fun k => by rw [laws_szUnitS.l0, if_neg (by omega)]) (Ev.now _), by omega, fun _ => ?_⟩
    rw [List.drop_eq_nil_of_le (by omega)]
    show a + ((0 : Nat) : Int) ≤ a
    omega
  | succ d ih =>
    intro i a hi h0 ha
    have hw := wrap_up i d l.length hl hi
    have hil : i < l.length := by omega
    obtain ⟨r1, hr1, p1, q1⟩ := szu_ev l[i] (hz _ (List.getElem_mem hil)) a h0 ha
    have hd : rowsLen (l.drop i) = l[i].f1.length + l[i].f2.length + rowsLen (l.drop (i + 1)) := by
      rw [List.drop_eq_getElem_cons hil]
      rfl
    by_cases n1 : r1 < 0
    · refine ⟨-1, Ev.step (fun k => by rw [laws_szUnitS.l0, if_pos (by omega), if_pos (by omega), rd_T70_nat l i hil]) (Ev.bind hr1 (Ev.congr (f := fun _ => some (-1)) (fun k => if_pos n1) (Ev.now _))), by omega, by omega⟩
    · obtain ⟨r, hr, h1, h2⟩ := ih (i + 1) r1 (by omega) (by omega) (by omega)
      refine ⟨r, Ev.step (fun k => by rw [laws_szUnitS.l0, if_pos (by omega), if_pos (by omega), rd_T70_nat l i hil]) (Ev.bind hr1 (Ev.congr (fun k => by rw [if_neg n1, hw]) hr)), h1, fun h => ?_⟩
      rw [hd]
      have := h2 h
      omega
theorem szus_ev (l : List S70) (hl : l.length ≤ 9223372036854775807) (hz : ∀ u ∈ l, unitRaw u) (a : Int) (h0 : 0 ≤ a) (ha : a ≤ 1048576) :
    ∃ r, Ev (fun k => laws_szUnitS.f k l a) r ∧ -1 ≤ r ∧ (0 ≤ r → r + rowsLen l + l.length ≤ a) := by
  have hwa : wrap64 (a - (l.length : Int)) = a - (l.length : Int) := wrap_id (by omega) (by omega)
  by_cases hneg : a - (l.length : Int) < 0
  · exact ⟨-1, Ev.congr (f := fun _ => some (-1)) (fun k => by unfold laws_szUnitS.f; rw [hwa, if_pos hneg]) (Ev.now _), by omega, by omega⟩
  · obtain ⟨r, hr, h1, h2⟩ := szus_loop l hl hz l.length 0 (a - (l.length : Int)) (by omega) (by omega) (by omega)
    exact ⟨r, Ev.congr (fun k => by unfold laws_szUnitS.f; rw [hwa, if_neg hneg]; rfl) hr, h1, fun h => by have := h2 h; rw [List.drop_zero] at this; omega⟩
theorem rowsLen_mem {l : List S70} {u : S70} (h : u ∈ l) : u.f1.length + u.f2.length ≤ rowsLen l := by
  induction l with
  | nil => cases h
  | cons a l ih =>
    have e : rowsLen (a :: l) = a.f1.length + a.f2.length + rowsLen l := rfl
    rcases List.mem_cons.1 h with rfl | h
    · omega
    · have := ih h; omega
end Go.Proofs.Ytnjmhlhlmokjnaa.G
namespace Go.Proofs.Ytnjmhlhlmokjnaa.G
open Go.RowKit Go.Proofs.YtnjmhlhlmokjnaaW.PrintWords Go.Proofs.YtnjmhlhlmokjnaaW.PrintLast Go.Proofs.YtnjmhlhlmokjnaaW.PrintMore
set_option linter.unusedVariables false
set_option linter.unusedSimpArgs false
theorem marky32 : Marky k32 (fun u => (u.f1.length, u.f2.length)) :=
  marky_iso (marky_pair marky_string (marky_pair (marky_slice marky_string 9) (marky_pair (marky_slice marky_string 9) (marky_pair marky_string marky_bool)))) _
    (fun p => ⟨p.1, p.2.1, p.2.2.1, p.2.2.2.1, p.2.2.2.2⟩) (fun _ => rfl) _ (by
      intro x y h
      have h1 := congrArg List.length (congrArg (fun p => p.2.1) h)
      have h2 := congrArg List.length (congrArg (fun p => p.2.2.1) h)
      simp only [List.length_map] at h1 h2
      exact Prod.ext h1 h2)
theorem str_at {w : World} {base g c n i : Nat} {ok : Nat → Prop} {l : List ByteArray} (h : Kd.string.R 9 w base ok (.slice (some ⟨g, 0, none⟩) n c) l) (hi : i < n) :
    (∃ cs s, w.heap[g]? = some (.cells cs 9 (0, 0)) ∧ w.cell? ⟨g, i, none⟩ = some (.string s)) ∧ w.frozen? ⟨g, i, none⟩ = false := by
  obtain ⟨cs, hcs⟩ := Kd.R_typed h g rfl
  have hn := (Kd.R_reads' h).1
  subst hn
  obtain ⟨h1, h2⟩ := Kd.R_cell ByteArray.empty h (i : Int) (by omega) (by omega)
  rw [Int.toNat_natCast] at h1 h2
  exact ⟨⟨cs, _, hcs, h1⟩, h2⟩
set_option maxHeartbeats 2000000 in
set_option maxRecDepth 100000 in
theorem markStr_c (v : Value) (l : List ByteArray) (a : Int) (base : Nat) (ok : Nat → Prop) (w : World) (h : Kd.string.R 9 w base ok v l) (hl : l.length ≤ 1048576) (h0 : 0 ≤ a) (ha : a ≤ 1152921504606846976) :
    Calls Try.prog 25 #[v, .int .i64 a] w fun e w' => e = .returned (.int .i64 (a + l.length)) ∧ Marks (fun k => some k = v.ownBlock) w w' := by
  obtain ⟨A, c, rfl⟩ := Kd.R_slice h
  obtain ⟨n, hn⟩ : ∃ n, n = l.length := ⟨_, rfl⟩
  rw [← hn] at h hl ⊢
  have HR := Aside0.mk h
  have HN := Aside0.mk hn
  clear h hn
  go_enter Try.func25, Try.ntmps25
  go_wp2
  go_loopw [1, 5] (fun v1 v5 wr => ∃ (i : Nat) (l' : List ByteArray), v1 = .int .i64 (a + (i : Int)) ∧ v5 = .int .i64 i ∧ i ≤ n ∧ Aside0 (l'.length = n) ∧ Aside0 (Kd.string.R 9 wr base ok (.slice A n c) l') ∧ Aside0 (Marks (fun k => some k = (Value.slice A n c).ownBlock) w wr)) (fun _ v5 _ => n - (intOf v5).toNat)
  case atStart => exact ⟨0, l, by simp, rfl, Nat.zero_le _, ⟨HN.out.symm⟩, HR, ⟨Marks.refl _ _⟩⟩
  case round =>
    clear HR HN
    obtain ⟨i, l', rfl, rfl, hi, HN, HR, HM⟩ := hrel
    by_cases hlt : i < n
    · obtain ⟨g, cap, hv, hg1, hg2, hg3⟩ := Kd.R_form HR.out (by rw [HN.out]; omega)
      injection hv with hA hn2 hc2
      subst hA
      clear hg1 hg2 hg3 hn2 hc2
      obtain ⟨⟨cs, s, hb, hx⟩, hf⟩ := str_at HR.out hlt
      have HB := Aside0.mk hb
      clear hb
      go_wp2_with (first | (go_at_call 57; refine (markText_c (a + (i : Int)) (by omega) _).mono ?_; rintro e w8 ⟨rfl, hb8⟩; have hs8 := World.block_lt_of_cell? wr _ hx; have hM8 := Marks.below HM.out hb8; replace hx := (hb8.cell hs8).trans hx; replace hf := (hb8.frozen hs8).trans hf; have hB8 := (hb8.block _ hs8).trans HB.out) | fail)
      have hst : Marks (fun k => some k = (Value.slice (some ⟨g, 0, none⟩) n c).ownBlock) w8 (w8.setCell ⟨g, i, none⟩ (.string (mtext (a + (i : Int))))) := Marks.set hB8 (cell_blk hB8 hx) (Like.str _ _) rfl
      obtain ⟨l2, hR2, hl2⟩ := R_marks_str HR.out ((Marks.of_below hb8).trans hst)
      go_roundw
      case rel => exact ⟨i + 1, l2, by go_num, by go_num, hlt, ⟨hl2.trans HN.out⟩, ⟨hR2⟩, ⟨hM8.trans hst⟩⟩
      case measure => simp [intOf]; omega
    · obtain rfl : i = n := by omega
      go_wp2
      go_ret
      exact ⟨rfl, HM.out⟩
theorem unit_at {w : World} {base g c n i : Nat} {ok : Nat → Prop} {l : List S32} (h : k32.R 32 w base ok (.slice (some ⟨g, 0, none⟩) n c) l) (hi : i < n) :
    ∃ (cs : Array Value) (u : S32) (v1 v2 : Value), u ∈ l ∧ w.heap[g]? = some (.cells cs 32 (0, 0)) ∧ Kd.string.R 9 w base ok v1 u.f1 ∧ Kd.string.R 9 w base ok v2 u.f2 ∧
      w.cell? ⟨g, i * 5, none⟩ = some (.string u.f0) ∧ w.cell? ⟨g, i * 5 + 1, none⟩ = some v1 ∧ w.cell? ⟨g, i * 5 + 2, none⟩ = some v2 ∧ w.cell? ⟨g, i * 5 + 3, none⟩ = some (.string u.f3) ∧ w.cell? ⟨g, i * 5 + 4, none⟩ = some (.bool u.f4) ∧
      w.frozen? ⟨g, i * 5, none⟩ = false ∧ w.frozen? ⟨g, i * 5 + 3, none⟩ = false ∧ w.frozen? ⟨g, i * 5 + 4, none⟩ = false := by
  obtain ⟨cs, hcs⟩ := Kd.R_typed h g rfl
  have hn := (Kd.R_reads' h).1
  subst hn
  obtain ⟨c', hcl, hM, hcc, hfr⟩ := Kd.R_elem h z32 (i : Int) (by omega) (by omega)
  rw [Int.toNat_natCast] at hM hcc hfr
  obtain ⟨v1, v2, rfl, g1, g2⟩ := k32_openM hM
  have hm : l.getD i z32 ∈ l := by
    rw [List.getD_eq_getElem?_getD, List.getElem?_eq_getElem hi]
    exact List.getElem_mem hi
  exact ⟨cs, _, v1, v2, hm, hcs, Kd.R_mono g1 (fun k hk => hk.1), Kd.R_mono g2 (fun k hk => hk.1), hcc 0 _ rfl, hcc 1 _ rfl, hcc 2 _ rfl, hcc 3 _ rfl, hcc 4 _ rfl, hfr 0, hfr 3, hfr 4⟩
theorem lenOk_map {l l' : List S32} (h : l'.map (fun u => (u.f1.length, u.f2.length)) = l.map (fun u => (u.f1.length, u.f2.length))) (hl : ∀ u ∈ l, lenOk u) : ∀ u ∈ l', lenOk u := by
  intro u hu
  have : (u.f1.length, u.f2.length) ∈ l'.map (fun u => (u.f1.length, u.f2.length)) := List.mem_map.2 ⟨u, hu, rfl⟩
  rw [h] at this
  obtain ⟨u', hu', e⟩ := List.mem_map.1 this
  have := hl u' hu'
  injection e with e1 e2
  unfold lenOk at this ⊢
  omega
theorem Marks.heap {ok : Nat → Prop} {w w' : World} {g : Nat} {o : Obj} (h : Marks ok w w') (hb : w.heap[g]? = some o) (hg : ¬ ok g) : w'.heap[g]? = w.heap[g]? := h.other g (Array.getElem?_eq_some_iff.1 hb).1 hg
def Rows32 (w : World) (base : Nat) (ok : Nat → Prop) (v : Value) (n : Nat) : Prop := ∃ l : List S32, l.length = n ∧ (∀ u ∈ l, lenOk u) ∧ k32.R 32 w base ok v l
theorem Rows32.carry {w w' : World} {base n : Nat} {ok ok' : Nat → Prop} {v : Value} (h : Rows32 w base ok v n) (hm : Marks ok' w w') : Rows32 w' base ok v n := by
  obtain ⟨l, h1, h2, h3⟩ := h
  obtain ⟨l', k1, k2⟩ := R_marks marky32 h3 hm
  exact ⟨l', by have := congrArg List.length k2; simp only [List.length_map] at this; omega, lenOk_map k2 h2, k1⟩
theorem cell_same {w w' : World} {g j : Nat} (h : w'.heap[g]? = w.heap[g]?) : w'.cell? ⟨g, j, none⟩ = w.cell? ⟨g, j, none⟩ := World.cell?_of_block h
theorem frozen_same {w w' : World} {g j : Nat} (h : w'.heap[g]? = w.heap[g]?) : w'.frozen? ⟨g, j, none⟩ = w.frozen? ⟨g, j, none⟩ := by
  unfold World.frozen?
  rw [h]
theorem set_far (w : World) (g : Nat) {j j' : Nat} (u : Value) (h : j ≠ j') : (w.setCell ⟨g, j', none⟩ u).cell? ⟨g, j, none⟩ = w.cell? ⟨g, j, none⟩ :=
  World.cell?_setCell_other w _ _ u (fun e => h (by injection e with _ e2; exact e2.symm))
theorem set_frozen (w : World) (g : Nat) {j j' : Nat} (u : Value) : (w.setCell ⟨g, j', none⟩ u).frozen? ⟨g, j, none⟩ = w.frozen? ⟨g, j, none⟩ := by
  go_simp
set_option maxHeartbeats 4000000 in
set_option maxRecDepth 100000 in
theorem markUnits_c (v : Value) (l : List S32) (a : Int) (base : Nat) (ok : Nat → Prop) (w : World) (h : k32.R 32 w base ok v l) (hl : l.length ≤ 1048576) (hu : ∀ u ∈ l, lenOk u) (h0 : 0 ≤ a) (ha : a ≤ 4503599627370496) :
    Calls Try.prog 24 #[v, .int .i64 a] w fun e w' => (∃ r : Int, e = .returned (.int .i64 r) ∧ 0 ≤ r ∧ r ≤ a + l.length * 2097155) ∧ Marks ok w w' := by
  obtain ⟨A, c, rfl⟩ := Kd.R_slice h
  obtain ⟨n, hn⟩ : ∃ n, n = l.length := ⟨_, rfl⟩
  rw [← hn] at h hl ⊢
  have HR := Aside0.mk h
  have HN := Aside0.mk hn
  have HU := Aside0.mk hu
  clear h hn hu
  go_enter Try.func24, Try.ntmps24
  go_wp2
  go_loopw [1, 5] (fun v1 v5 wr => ∃ (i : Nat) (q : Int), v1 = .int .i64 q ∧ v5 = .int .i64 i ∧ i ≤ n ∧ 0 ≤ q ∧ q ≤ a + i * 2097155 ∧ Aside0 (Rows32 wr base ok (.slice A n c) n) ∧ Aside0 (Marks ok w wr)) (fun _ v5 _ => n - (intOf v5).toNat)
  case atStart => exact ⟨0, a, rfl, rfl, Nat.zero_le _, h0, by omega, ⟨⟨l, HN.out.symm, HU.out, HR.out⟩⟩, ⟨Marks.refl _ _⟩⟩
  case round =>
    clear HR HN HU
    obtain ⟨i, q, rfl, rfl, hi, hq0, hq1, HR, HM⟩ := hrel
    by_cases hlt : i < n
    · obtain ⟨l', hN, hU, hR⟩ := HR.out
      obtain ⟨g, cap, hv, hg1, hg2, hg3⟩ := Kd.R_form hR (by rw [hN]; omega)
      injection hv with hA hn2 hc2
      subst hA
      clear hg1 hg2 hg3 hn2 hc2
      obtain ⟨cs, u, v1, v2, hm, hb, g1, g2, x0, x1, x2, x3, x4, f0, f3, f4⟩ := unit_at hR hlt
      obtain ⟨y1, y2⟩ := hU u hm
      have HGO := Aside0.mk (hR.1 g rfl)
      have HG1 := Aside0.mk g1
      have HG2 := Aside0.mk g2
      have HB := Aside0.mk hb
      clear hb g1 g2 hm hN hU hR
      go_wp2_with fail
      refine (markText_c q (by omega) _).mono ?_
      rintro e w1 ⟨rfl, hb1⟩
      have hs : g < wr.heap.size := World.block_lt_of_cell? wr _ x0
      have he1 := hb1.block g hs
      have HB1 := Aside0.mk (he1.trans HB.out)
      replace x0 := (cell_same he1).trans x0
      replace x1 := (cell_same he1).trans x1
      replace x2 := (cell_same he1).trans x2
      replace x3 := (cell_same he1).trans x3
      replace x4 := (cell_same he1).trans x4
      replace f0 := (frozen_same he1).trans f0
      replace f3 := (frozen_same he1).trans f3
      replace f4 := (frozen_same he1).trans f4
      have HG11 := Aside0.mk (Kd.R_below HG1.out hb1)
      have HG21 := Aside0.mk (Kd.R_below HG2.out hb1)
      have HR1 := Aside0.mk (HR.out.carry (Marks.of_below (ok := ok) hb1))
      have HM1 := Aside0.mk (Marks.below HM.out hb1)
      clear hb1 hs he1 HB HG1 HG2 HR HM
      go_wp2_with fail
      have hst : Marks ok w1 (w1.setCell ⟨g, i * 5, none⟩ (.string (mtext q))) := Marks.set HB1.out (cell_blk HB1.out x0) (Like.str _ _) HGO.out
      have HG12 := Aside0.mk (Kd.R_set HG11.out HB1.out (by decide) (i * 5) (.string (mtext q)))
      have HG22 := Aside0.mk (Kd.R_set HG21.out HB1.out (by decide) (i * 5) (.string (mtext q)))
      replace x1 := (set_far w1 g (.string (mtext q)) (show i * 5 + 1 ≠ i * 5 by omega)).trans x1
      replace x2 := (set_far w1 g (.string (mtext q)) (show i * 5 + 2 ≠ i * 5 by omega)).trans x2
      replace x3 := (set_far w1 g (.string (mtext q)) (show i * 5 + 3 ≠ i * 5 by omega)).trans x3
      replace x4 := (set_far w1 g (.string (mtext q)) (show i * 5 + 4 ≠ i * 5 by omega)).trans x4
      replace f3 := (set_frozen w1 g (j' := i * 5) (.string (mtext q))).trans f3
      replace f4 := (set_frozen w1 g (j' := i * 5) (.string (mtext q))).trans f4
      clear x0 f0
      obtain ⟨w2, hw2⟩ : ∃ w2, w2 = w1.setCell ⟨g, i * 5, none⟩ (.string (mtext q)) := ⟨_, rfl⟩
      rw [← hw2] at hst HG12 HG22 x1 x2 x3 x4 f3 f4 ⊢
      obtain ⟨cs2, hb2, _, _⟩ := hst.cells g cs 32 (0, 0) HB1.out
      have HB2 := Aside0.mk hb2
      have HR2 := Aside0.mk (HR1.out.carry hst)
      have HM2 := Aside0.mk (HM1.out.trans hst)
      clear hst hw2 hb2 HG11 HG21 HR1 HM1 HB1
      refine (markStr_c v1 u.f1 (q + 1) base ok w2 HG12.out y1 (by omega) (by omega)).mono ?_
      rintro e w3 ⟨rfl, hm3⟩
      have he3 := hm3.heap HB2.out (fun e => Kd.R_ne HG12.out HB2.out (by decide) e)
      replace hm3 := hm3.mono (ok' := ok) (fun k hk => HG12.out.1 k hk.symm)
      have HB3 := Aside0.mk (he3.trans HB2.out)
      replace x2 := (cell_same he3).trans x2
      replace x3 := (cell_same he3).trans x3
      replace x4 := (cell_same he3).trans x4
      replace f3 := (frozen_same he3).trans f3
      replace f4 := (frozen_same he3).trans f4
      obtain ⟨m2, hG23, em2⟩ := R_marks_str HG22.out hm3
      have HG23 := Aside0.mk hG23
      replace y2 : m2.length ≤ 1048576 := by omega
      have HR3 := Aside0.mk (HR2.out.carry hm3)
      have HM3 := Aside0.mk (HM2.out.trans hm3)
      clear x1 he3 hm3 hG23 em2 HB2 HG12 HG22 HR2 HM2
      go_wp2_with fail
      refine (markStr_c v2 m2 (q + 1 + (u.f1.length : Int)) base ok w3 HG23.out y2 (by omega) (by omega)).mono ?_
      rintro e w4 ⟨rfl, hm4⟩
      have he4 := hm4.heap HB3.out (fun e => Kd.R_ne HG23.out HB3.out (by decide) e)
      replace hm4 := hm4.mono (ok' := ok) (fun k hk => HG23.out.1 k hk.symm)
      have HB4 := Aside0.mk (he4.trans HB3.out)
      replace x3 := (cell_same he4).trans x3
      replace x4 := (cell_same he4).trans x4
      replace f3 := (frozen_same he4).trans f3
      replace f4 := (frozen_same he4).trans f4
      have HR4 := Aside0.mk (HR3.out.carry hm4)
      have HM4 := Aside0.mk (HM3.out.trans hm4)
      clear x2 he4 hm4 HB3 HG23 HR3 HM3
      go_wp2_with fail
      refine (markText_c (q + 1 + (u.f1.length : Int) + (m2.length : Int)) (by omega) _).mono ?_
      rintro e w5 ⟨rfl, hb5⟩
      have hs : g < w4.heap.size := World.block_lt_of_cell? w4 _ x3
      have he5 := hb5.block g hs
      have HB5 := Aside0.mk (he5.trans HB4.out)
      replace x3 := (cell_same he5).trans x3
      replace x4 := (cell_same he5).trans x4
      replace f3 := (frozen_same he5).trans f3
      replace f4 := (frozen_same he5).trans f4
      have HR5 := Aside0.mk (HR4.out.carry (Marks.of_below (ok := ok) hb5))
      have HM5 := Aside0.mk (Marks.below HM4.out hb5)
      clear hb5 hs he5 HB4 HR4 HM4
      have hm6 : ∀ (s : ByteArray) (b : Bool), Marks ok w5 ((w5.setCell ⟨g, i * 5 + 3, none⟩ (.string s)).setCell ⟨g, i * 5 + 4, none⟩ (.bool b)) := by
        intro s b
        have h1 : Marks ok w5 (w5.setCell ⟨g, i * 5 + 3, none⟩ (.string s)) := Marks.set HB5.out (cell_blk HB5.out x3) (Like.str _ _) HGO.out
        obtain ⟨cs6, hb6, _, _⟩ := h1.cells g _ 32 (0, 0) HB5.out
        exact h1.store hb6 ((set_far w5 g (.string s) (show i * 5 + 4 ≠ i * 5 + 3 by omega)).trans x4) (Like.bool _ _) HGO.out
      have HM6 := Aside0.mk hm6
      clear hm6
      go_wp2_with fail
      go_roundw
      case rel => exact ⟨i + 1, _, rfl, by go_num, hlt, by omega, by omega, ⟨HR5.out.carry (HM6.out _ _)⟩, ⟨HM5.out.trans (HM6.out _ _)⟩⟩
      case measure => simp [intOf]; omega
    · obtain rfl : i = n := by omega
      go_wp2
      go_ret
      exact ⟨⟨_, rfl, hq0, hq1⟩, HM.out⟩
end Go.Proofs.Ytnjmhlhlmokjnaa.G
namespace Go.Proofs.Ytnjmhlhlmokjnaa.G
open Go.RowKit Go.ChangeShapes Go.WideShapes Go.Deep Go.Proofs.YtnjmhlhlmokjnaaW.PrintWords Go.Proofs.YtnjmhlhlmokjnaaW.PrintLast
set_option linter.unusedVariables false
set_option linter.unusedSimpArgs false
section
variable {H : Type} (enc : TypeId × Value → H) (P : Program) (w : World) (base : Nat) (spare : Nat → Bool) (held : Bool)
def Opens {α : Type} (t : TypeId) (d : Kd α) (G : α → Prop) : Prop :=
  ∀ (n : Nat) (cs : List Value) (x : DataW H × List MemPlace), DataW.trod enc P w base spare held n t cs = some x → ∃ a : α, d.K w a cs ∧ G a
variable {enc : TypeId × Value → H} {P : Program} {w : World} {base : Nat} {spare : Nat → Bool} {held : Bool}
theorem opens_string {t : TypeId} (ht : P.underlying t = some .string) : Opens enc P w base spare held t Kd.string (fun s => s.size ≤ 9223372036854775807) := by
  intro n cs x h
  obtain ⟨s, rfl, _, hs⟩ := DataW.trod_string ht h
  exact ⟨s, rfl, hs⟩
theorem opens_bool {t : TypeId} (ht : P.underlying t = some .bool) : Opens enc P w base spare held t Kd.bool (fun _ => True) := by
  intro n cs x h
  obtain ⟨b, rfl, _⟩ := DataW.trod_bool ht h
  exact ⟨b, rfl, trivial⟩
theorem list_of {α : Type} (Q : Nat → α → Prop) : ∀ n : Nat, (∀ i, i < n → ∃ a, Q i a) → ∃ l : List α, l.length = n ∧ ∀ i a, l[i]? = some a → Q i a
  | 0, _ => ⟨[], rfl, fun i a h => by cases h⟩
  | n + 1, h => by
    obtain ⟨l, hl, hq⟩ := list_of Q n (fun i hi => h i (by omega))
    obtain ⟨a, ha⟩ := h n (by omega)
    refine ⟨l ++ [a], by simp [hl], fun i b hb => ?_⟩
    rcases Nat.lt_or_ge i l.length with hi | hi
    · rw [List.getElem?_append_left hi] at hb
      exact hq i b hb
    · rw [List.getElem?_append_right hi] at hb
      have h0 : i - l.length = 0 := by
        have := (List.getElem?_eq_some_iff.1 hb).1
        simp at this
        omega
      rw [h0] at hb
      have : a = b := by simpa using hb
      subst this
      have : i = n := by omega
      subst this
      exact ha
theorem opens_slice {α : Type} {t e : TypeId} {d : Kd α} {G : α → Prop} (ht : P.underlying t = some (.slice e)) (hc : P.cellsOf e = d.sz) (he : Opens enc P w base spare held e d G) :
    Opens enc P w base spare held t (Kd.slice e d) (fun l => l.length ≤ 9223372036854775807 ∧ ∀ a ∈ l, G a) := by
  intro n cs x h
  rcases open_slice ht h with ⟨rfl, _⟩ | ⟨a, len, cap, m, n', D, Pl, rfl, hb, hl, hm, hmm, hx, hi⟩
  · exact ⟨[], ⟨none, 0, rfl, Nat.le_refl _, rfl, by simp, fun h => by simp at h⟩, by simp, by simp⟩
  · have hlm : len ≤ m := by rw [hmm]; split <;> omega
    obtain ⟨l, hll, hq⟩ := list_of (fun i (b : α) => (∃ c, c.length = d.sz ∧ d.K w b c ∧ ∀ j u, c[j]? = some u → w.cell? (a.add (i * d.sz + j)) = some u) ∧ G b) len (fun i hil => by
      obtain ⟨cs', h1, h2⟩ := hi i (by omega)
      obtain ⟨_, hcl, hat⟩ := World.cells?_some h1
      obtain ⟨b, hb1, hb2⟩ := he _ _ _ h2
      refine ⟨b, ⟨cs', by rw [hcl, hc], hb1, fun j u hu => ?_⟩, hb2⟩
      have hj : j < P.cellsOf e := by
        have := (List.getElem?_eq_some_iff.1 hu).1
        omega
      rw [← hc, ← Go.Deep.add_add, hat j hj, hu])
    unfold maxLen at hm
    refine ⟨l, ⟨some a, cap, by rw [hll], by omega, rfl, by omega, fun _ => ⟨a, rfl, fun j p hp => ?_⟩⟩, by omega, fun b hb => ?_⟩
    · exact (hq j p hp).1
    · obtain ⟨i, hi'⟩ := List.getElem?_of_mem hb
      exact (hq i b hi').2
theorem struct_cells {e : TypeId} {fs : Array Field} {n : Nat} {cs : List Value} {x : DataW H × List MemPlace} (he : P.underlying e = some (.struct fs)) (hone : oneCellFields P fs = true) (hC : P.cellsOf e = fs.size)
    (h : DataW.trod enc P w base spare held n e cs = some x) : cs.length = fs.size ∧ ∀ (j : Nat) (f : Field) (v : Value), fs[j]? = some f → cs[j]? = some v → ∃ n' y, DataW.trod enc P w base spare held n' f.type [v] = some y := by
  obtain ⟨ys, n', _, _, hlen, hyl, hf⟩ := DataW.trod_struct he h
  refine ⟨hlen.trans hC, fun j f v hj hv => ?_⟩
  obtain ⟨ho, hk⟩ := hone_of hone j f hj
  have hjl : j < fs.size := (Array.getElem?_eq_some_iff.1 hj).1
  have h1 := hf j f hj
  rw [ho, hk] at h1
  have hjc : j < cs.length := by omega
  have hone' : (cs.drop j).take 1 = [v] := by
    rw [List.drop_eq_getElem_cons hjc]
    rw [List.getElem?_eq_getElem hjc] at hv
    rw [Option.some.inj hv]
    rfl
  rw [hone'] at h1
  exact ⟨_, _, h1.trans (List.getElem?_eq_getElem (by omega))⟩
end
end Go.Proofs.Ytnjmhlhlmokjnaa.G
namespace Go.Proofs.Ytnjmhlhlmokjnaa.G
open Go.RowKit Go.Proofs.YtnjmhlhlmokjnaaW.PrintWords Go.Proofs.YtnjmhlhlmokjnaaW.PrintLast Go.Proofs.YtnjmhlhlmokjnaaW.PrintMore
set_option linter.unusedVariables false
set_option linter.unusedSimpArgs false
theorem drawn_b {w w' : World} (h : Drawn0 w w') : Below w.heap.size w w' := by
  obtain ⟨m, rfl⟩ := h.out
  exact pw_below_drewN (Below.refl _ _) m
theorem R_span {α : Type} {d : Kd α} {e : Nat} {ok : Nat → Prop} {w w' : World} {v : Value} {xs : List α} {B : Nat} (h : d.R e w' w.heap.size ok v xs) (hB : B ≤ w.heap.size) : d.R e w' B (fun k => w.heap.size ≤ k ∧ k < w'.heap.size) v xs :=
  Kd.R_lower (Kd.R_mono (Kd.R_bound h) (fun _ hk => ⟨hk.2.1, hk.2.2.1⟩)) hB
theorem lenOk_conv {l : List S70} (h : rowsLen l ≤ 1048576) : ∀ u ∈ l.map conv, lenOk u := by
  intro u hu
  obtain ⟨x, hx, rfl⟩ := List.mem_map.1 hu
  have h1 := rowsLen_mem hx
  have h2 : (conv x).f1.length = x.f1.length := rfl
  have h3 : (conv x).f2.length = x.f2.length := rfl
  unfold lenOk
  omega
theorem szU_c {l : List S70} {a r : Int} {A : Option Addr} {c : Nat} {w : World} (h : Ev (fun k => laws_szUnitS.f k l a) r) (hr : Kd.C k70 w A l.length l) (hc : l.length ≤ c) :
    Calls Try.prog 18 #[.slice A l.length c, .int .i64 a] w fun e w' => e = .returned (.int .i64 r) ∧ Below w.heap.size w w' := by
  obtain ⟨k, hk⟩ := h.rounds
  exact laws_szUnitS.calls k A c l a r w hr hc hk
theorem szS_c {l : List ByteArray} {a r : Int} {A : Option Addr} {c : Nat} {w : World} (h : Ev (fun k => laws_szStringS.f k l a) r) (hr : Kd.C Kd.string w A l.length l) (hc : l.length ≤ c) :
    Calls Try.prog 19 #[.slice A l.length c, .int .i64 a] w fun e w' => e = .returned (.int .i64 r) ∧ Below w.heap.size w w' := by
  obtain ⟨k, hk⟩ := h.rounds
  refine (laws_szStringS.calls k A c l a r w hr hc hk).mono ?_
  rintro e w' ⟨h1, h2⟩
  exact ⟨h1, drawn_b h2⟩
theorem toU_c {l : List S70} {us : List S32} {A : Option Addr} {c B : Nat} {w : World} (he : us = l.map conv) (hl : l.length ≤ 1048576) (hu : ∀ u ∈ us, lenOk u) (hr : Kd.C k70 w A l.length l) (hc : l.length ≤ c) (hB : B ≤ w.heap.size) :
    Calls Try.prog 20 #[.slice A l.length c] w fun e w' => ∃ A' c', e = .returned (.slice A' us.length c') ∧ k32.R 32 w' B (fun k => w.heap.size ≤ k ∧ k < w'.heap.size) (.slice A' us.length c') us ∧ Below w.heap.size w w' := by
  subst he
  obtain ⟨k, hk⟩ := (tou_ev l hl (fun u h => hu _ (List.mem_map.2 ⟨u, h, rfl⟩))).rounds
  refine (laws_toUnitS.calls k A c l _ w hr hc hk).mono ?_
  rintro e w' ⟨v, h1, h2, h3⟩
  have h2 := Kd.S_R h2
  obtain ⟨A', c', rfl⟩ := Kd.R_slice h2
  exact ⟨A', c', h1, R_span h2 hB, h3⟩
theorem toS_c {l : List ByteArray} {A : Option Addr} {c B : Nat} {w : World} (hl : l.length ≤ 1048576) (hr : Kd.C Kd.string w A l.length l) (hc : l.length ≤ c) (hB : B ≤ w.heap.size) :
    Calls Try.prog 21 #[.slice A l.length c] w fun e w' => ∃ A' c', e = .returned (.slice A' l.length c') ∧ Kd.string.R 9 w' B (fun k => w.heap.size ≤ k ∧ k < w'.heap.size) (.slice A' l.length c') l ∧ Below w.heap.size w w' := by
  obtain ⟨k, hk⟩ := (tos_ev l hl).rounds
  refine (laws_toStringS.calls k A c l _ w hr hc hk).mono ?_
  rintro e w' ⟨v, h1, h2, h3⟩
  obtain ⟨A', c', rfl⟩ := Kd.R_slice h2
  exact ⟨A', c', h1, R_span h2 hB, h3⟩
theorem eqS_c {l : List ByteArray} {A A' : Option Addr} {c c' : Nat} {w : World} (hr : Kd.C Kd.string w A l.length l) (hc : l.length ≤ c) (hr' : Kd.C Kd.string w A' l.length l) (hc' : l.length ≤ c') :
    Calls Try.prog 22 #[.slice A l.length c, .slice A' l.length c'] w fun e w' => e = .returned (.bool true) ∧ Drawn0 w w' := by
  obtain ⟨k, hk⟩ := (eqs_ev l (len_le hr)).rounds
  exact laws_eqStringS.calls k A c l A' c' l true w hr hc hr' hc' hk
theorem eqU_c {l : List S32} {A A' : Option Addr} {c c' : Nat} {w : World} (hl : l.length ≤ 1048576) (hu : ∀ u ∈ l, lenOk u) (hr : Kd.C k32 w A l.length l) (hc : l.length ≤ c) (hr' : Kd.C k32 w A' l.length l) (hc' : l.length ≤ c') :
    Calls Try.prog 23 #[.slice A l.length c, .slice A' l.length c'] w fun e w' => e = .returned (.bool true) ∧ Below w.heap.size w w' := by
  obtain ⟨k, hk⟩ := (equs_ev l hl hu).rounds
  exact laws_eqUnitS.calls k A c l A' c' l true w hr hc hr' hc' hk
theorem markS_c {l : List ByteArray} {v : Value} {ok : Nat → Prop} {w0 w : World} (a : Int) (hB : Below w0.heap.size w0 w) (h : Kd.string.R 9 w w0.heap.size ok v l) (hl : l.length ≤ 1048576) (h0 : 0 ≤ a) (ha : a ≤ 576460752303423488) :
    Calls Try.prog 25 #[v, .int .i64 a] w fun e w' => e = .returned (.int .i64 (a + l.length)) ∧ (∃ l', Marked 0 a l l' ∧ Kd.string.R 9 w' w0.heap.size (fun k => some k = v.ownBlock ∨ w.heap.size ≤ k) v l') ∧ Below w0.heap.size w0 w' ∧ Kept w w' (fun k => some k = v.ownBlock) := by
  obtain ⟨r, hr, hm⟩ := mark_ev l a hl h0 (by omega)
  obtain ⟨k, hk⟩ := hr.rounds
  refine (laws_markStringS.calls k (fun k => some k = v.ownBlock) v l a _ r w0 w hB ?_ hk).mono ?_
  · exact Kd.R_tight rfl h
  · rintro e w' ⟨h1, h2, h3, h4⟩
    exact ⟨h1, ⟨r, hm, h2⟩, h3, h4⟩
theorem R_other {α : Type} {d : Kd α} {e base : Nat} {ok ok' : Nat → Prop} {w w' : World} {v : Value} {xs : List α} (h : d.R e w base ok v xs) (hm : ∀ k, k < w.heap.size → ¬ ok' k → w'.heap[k]? = w.heap[k]?) (hd : ∀ k, ok k → ok' k → False) : d.R e w' base ok v xs :=
  Kd.R_mono (Kd.R_move (Kd.R_bound h) (fun k hk => hm k hk.2.2.1 (hd k hk.1))) (fun _ hk => hk.1)
section
variable {H : Type} {enc : TypeId × Value → H} {w : World} {base : Nat} {spare : Nat → Bool} {held : Bool}
theorem opens_texts : Opens enc Try.prog w base spare held 25 (Kd.slice 9 Kd.string) textsOk :=
  opens_slice Try.underlying25 (by kernel_rfl) (opens_string Try.underlying9)
theorem opens70 : Opens enc Try.prog w base spare held 70 k70 unitRaw := by
  intro n cs x h
  obtain ⟨hl, hc⟩ := struct_cells Try.underlying70 (by kernel_rfl) (by kernel_rfl) h
  match cs, hl with
  | [c0, c1, c2, c3, c4], _ =>
    obtain ⟨_, _, h0⟩ := hc 0 _ c0 rfl rfl
    obtain ⟨_, _, h1⟩ := hc 1 _ c1 rfl rfl
    obtain ⟨_, _, h2⟩ := hc 2 _ c2 rfl rfl
    obtain ⟨_, _, h3⟩ := hc 3 _ c3 rfl rfl
    obtain ⟨_, _, h4⟩ := hc 4 _ c4 rfl rfl
    obtain ⟨s0, e0, z0⟩ := opens_string (t := 9) Try.underlying9 _ _ _ h0
    obtain ⟨s1, e1, z1⟩ := opens_texts _ _ _ h1
    obtain ⟨s2, e2, z2⟩ := opens_texts _ _ _ h2
    obtain ⟨s3, e3, z3⟩ := opens_string (t := 9) Try.underlying9 _ _ _ h3
    obtain ⟨s4, e4, _⟩ := opens_bool (t := 4) Try.underlying4 _ _ _ h4
    refine ⟨⟨s0, s1, s2, s3, s4⟩, ?_, z0, z1, z2, z3⟩
    exact ⟨[c0], [c1, c2, c3, c4], rfl, e0, [c1], [c2, c3, c4], rfl, e1, [c2], [c3, c4], rfl, e2, [c3], [c4], rfl, e3, e4⟩
theorem opens_units : Opens enc Try.prog w base spare held 34 (Kd.slice 70 k70) (fun l => l.length ≤ 9223372036854775807 ∧ ∀ a ∈ l, unitRaw a) :=
  opens_slice Try.underlying34 (by kernel_rfl) opens70
end
end Go.Proofs.Ytnjmhlhlmokjnaa.G
namespace Go.Proofs.Ytnjmhlhlmokjnaa.G
set_option linter.unusedVariables false
set_option linter.unusedSimpArgs false
def badB (us : List S32) (l : List ByteArray) (u : S32) : Bool := u.f2.any (fun n => !hasU us n || decide (n ∈ l))
def closeF (us : List S32) : Nat → List ByteArray → List ByteArray
  | 0, l => l
  | n + 1, l => closeF us n (l ++ namesU (us.filter (badB us l)))
def failL (us : List S32) (br : List ByteArray) : List ByteArray := closeF us us.length (br.filter (hasU us))
def Closed (us : List S32) (P : ByteArray → Prop) : Prop := ∀ u ∈ us, (∃ n ∈ u.f2, hasU us n = false ∨ P n) → P u.f0
theorem badB_iff {us : List S32} {l : List ByteArray} {u : S32} : badB us l u = true ↔ ∃ n ∈ u.f2, hasU us n = false ∨ n ∈ l := by
  unfold badB
  rw [List.any_eq_true]
  constructor
  · rintro ⟨n, h1, h2⟩
    refine ⟨n, h1, ?_⟩
    simpa using h2
  · rintro ⟨n, h1, h2⟩
    refine ⟨n, h1, ?_⟩
    simpa using h2
theorem mem_step {us : List S32} {l : List ByteArray} {x : ByteArray} : x ∈ l ++ namesU (us.filter (badB us l)) ↔ x ∈ l ∨ ∃ u ∈ us, badB us l u = true ∧ u.f0 = x := by
  simp only [namesU, List.mem_append, List.mem_map, List.mem_filter]
  constructor
  · rintro (h | ⟨u, ⟨h1, h2⟩, h3⟩)
    · exact .inl h
    · exact .inr ⟨u, h1, h2, h3⟩
  · rintro (h | ⟨u, h1, h2, h3⟩)
    · exact .inl h
    · exact .inr ⟨u, ⟨h1, h2⟩, h3⟩
theorem closeF_least {us : List S32} {P : ByteArray → Prop} (hc : Closed us P) : ∀ n l, (∀ x ∈ l, P x) → ∀ x ∈ closeF us n l, P x
  | 0, _, h => h
  | n + 1, l, h => closeF_least hc n _ (fun x hx => by
    rcases mem_step.1 hx with hx | ⟨u, h1, h2, rfl⟩
    · exact h x hx
    · obtain ⟨m, hm, hb⟩ := badB_iff.1 h2
      exact hc u h1 ⟨m, hm, hb.imp id (h m)⟩)
theorem closeF_sub {us : List S32} : ∀ n l x, x ∈ l → x ∈ closeF us n l
  | 0, _, _, h => h
  | n + 1, l, x, h => closeF_sub n _ x (mem_step.2 (.inl h))
theorem closeF_stays {us : List S32} : ∀ n l, Closed us (· ∈ l) → ∀ x, x ∈ closeF us n l ↔ x ∈ l := fun n l hc x => ⟨closeF_least hc n l (fun _ h => h) x, closeF_sub n l x⟩
theorem Closed.congr {us : List S32} {P Q : ByteArray → Prop} (h : Closed us P) (e : ∀ x, Q x ↔ P x) : Closed us Q := fun u hu ⟨n, hn, hb⟩ => (e _).2 (h u hu ⟨n, hn, hb.imp id (e n).1⟩)
theorem countP_lt {α : Type} {p q : α → Bool} : ∀ {l : List α}, (∀ x ∈ l, p x = true → q x = true) → (∃ x ∈ l, p x = false ∧ q x = true) → l.countP p < l.countP q
  | [], _, ⟨_, h, _⟩ => by cases h
  | a :: l, h, ⟨x, hx, h1, h2⟩ => by
    have hm : l.countP p ≤ l.countP q := List.countP_mono_left (fun y hy => h y (List.mem_cons_of_mem _ hy))
    rw [List.countP_cons, List.countP_cons]
    rcases List.mem_cons.1 hx with rfl | hx
    · rw [h1, h2]; simp; omega
    · have := countP_lt (fun y hy => h y (List.mem_cons_of_mem _ hy)) ⟨x, hx, h1, h2⟩
      have ha := h a List.mem_cons_self
      cases hp : p a
      · cases q a <;> simp <;> omega
      · rw [ha hp]; simp; omega
def cntL (us : List S32) (l : List ByteArray) : Nat := us.countP (fun u => decide (u.f0 ∈ l))
theorem closeF_closed {us : List S32} : ∀ n l, Closed us (· ∈ closeF us n l) ∨ n + cntL us l ≤ cntL us (closeF us n l)
  | 0, l => .inr (by simp [closeF])
  | n + 1, l => by
    by_cases hc : Closed us (· ∈ l)
    · exact .inl (hc.congr (closeF_stays (n + 1) l hc))
    · refine (closeF_closed n _).imp id (fun h => ?_)
      have : cntL us l < cntL us (l ++ namesU (us.filter (badB us l))) := by
        refine countP_lt (fun u hu h => decide_eq_true (mem_step.2 (.inl (of_decide_eq_true h)))) ?_
        obtain ⟨u, hu⟩ := Classical.not_forall.1 hc
        obtain ⟨h1, h2⟩ := Classical.not_imp.1 hu
        obtain ⟨h2, h3⟩ := Classical.not_imp.1 h2
        exact ⟨u, h1, decide_eq_false h3, decide_eq_true (mem_step.2 (.inr ⟨u, h1, badB_iff.2 h2, rfl⟩))⟩
      unfold closeF
      omega
theorem failL_closed (us : List S32) (br : List ByteArray) : Closed us (· ∈ failL us br) := by
  rcases closeF_closed (us := us) us.length (br.filter (hasU us)) with h | h
  · exact h
  · have h2 : cntL us (failL us br) = us.length := by
      have : cntL us (failL us br) ≤ us.length := List.countP_le_length
      unfold failL at this ⊢
      omega
    have h3 := List.countP_eq_length.1 h2
    exact fun u hu _ => of_decide_eq_true (h3 u hu)
theorem failL_least {us : List S32} {br : List ByteArray} {P : ByteArray → Prop} (hc : Closed us P) (hb : ∀ x ∈ br, hasU us x = true → P x) : ∀ x ∈ failL us br, P x :=
  closeF_least hc _ _ (fun x hx => hb x (List.mem_filter.1 hx).1 (List.mem_filter.1 hx).2)
theorem failL_base {us : List S32} {br : List ByteArray} {x : ByteArray} (h : x ∈ br) (hu : hasU us x = true) : x ∈ failL us br := closeF_sub _ _ _ (List.mem_filter.2 ⟨h, hu⟩)
theorem failL_has {us : List S32} {br : List ByteArray} : ∀ x ∈ failL us br, hasU us x = true :=
  failL_least (fun u hu _ => decide_eq_true (List.mem_map.2 ⟨u, hu, rfl⟩)) (fun _ _ h => h)
structure FInv (us : List S32) (br : List ByteArray) (S : ByteArray → Bool) : Prop where
  sound : ∀ x, S x = true → x ∈ failL us br
  base : ∀ x ∈ br, hasU us x = true → S x = true
theorem FInv.done {us : List S32} {br : List ByteArray} {S : ByteArray → Bool} (h : FInv us br S) (hc : Closed us (fun x => S x = true)) (x : ByteArray) : S x = true ↔ x ∈ failL us br :=
  ⟨h.sound x, failL_least hc h.base x⟩
theorem FInv.put {us : List S32} {br : List ByteArray} {S : ByteArray → Bool} (h : FInv us br S) {u : S32} (hu : u ∈ us) {n : ByteArray} (hn : n ∈ u.f2) (hb : hasU us n = false ∨ S n = true) : FInv us br (fun x => decide (x = u.f0) || S x) where
  sound := fun x hx => by
    by_cases e : x = u.f0
    · rw [e]
      exact failL_closed us br u hu ⟨n, hn, hb.imp id (h.sound n)⟩
    · exact h.sound x (by simpa [e] using hx)
  base := fun x hx hh => by simp [h.base x hx hh]
end Go.Proofs.Ytnjmhlhlmokjnaa.G
