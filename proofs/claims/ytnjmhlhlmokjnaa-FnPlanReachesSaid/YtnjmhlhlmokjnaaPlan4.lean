/-
  Part 4 of the texts of this claim: XPlanSpec, GLawsBig, GLawsHas, GLawsSameTexts, GLawsUnit, GSpecL1New, GSpecL1Byte, GSpecL1Below, GSpecL1Once, GSpecL2Int, XDraw0.
-/
import Derived.Test.YtnjmhlhlmokjnaaPlan3
namespace Go.Proofs.Ytnjmhlhlmokjnaa.G
open Go.RowKit Go.Maps Go.Proofs.YtnjmhlhlmokjnaaW.PrintWords Go.Proofs.YtnjmhlhlmokjnaaW.PrintLast Go.Proofs.YtnjmhlhlmokjnaaW.PrintMore
set_option linter.unusedVariables false
set_option linter.unusedSimpArgs false
theorem order_c (A0 : Option Addr) (c0 : Nat) (l0 : List S32) (hok : unitsOkB l0 = true) (w : World) (hr0 : Kd.C k32 w A0 l0.length l0) (hc0 : l0.length ≤ c0) :
    Calls Try.prog 27 #[.slice A0 l0.length c0] w fun e w' => ∃ (v0_ : Value) (b : Bool), e = .returned (.tuple #[v0_, .bool b]) ∧ Kd.R Kd.string 9 w' w.heap.size (fun _ => True) v0_ (startL l0) ∧ Below w.heap.size w w' := by
  have h := specOrder_ev l0
  rw [if_pos hok] at h
  obtain ⟨k, hk⟩ := h.rounds
  exact (spec_StartOrder.calls k A0 c0 l0 _ _ w hr0 hc0 hk).mono fun e w' ⟨v, h1, h2, h3⟩ => ⟨v, _, h1, h2, h3⟩
set_option maxHeartbeats 8000000 in
set_option maxRecDepth 100000 in
theorem spec_PlanUnits.calls (A0 : Option Addr) (c0 : Nat) (l0 : List S32) (A1 : Option Addr) (c1 : Nat) (l1 : List S32) (A2 : Option Addr) (c2 : Nat) (l2 : List ByteArray) (r : List S55) (w : World) (hr0 : Kd.C k32 w A0 l0.length l0) (hc0 : l0.length ≤ c0) (hr1 : Kd.C k32 w A1 l1.length l1) (hc1 : l1.length ≤ c1) (hr2 : Kd.C Kd.string w A2 l2.length l2) (hc2 : l2.length ≤ c2) (h : spec_PlanUnits.f l0 l1 l2 = some r) :
    Calls Try.prog 36 #[.slice A0 l0.length c0, .slice A1 l1.length c1, .slice A2 l2.length c2] w fun e w' => ∃ v0_ : Value, e = .returned (v0_) ∧ Kd.R k55 55 w' w.heap.size (fun _ => True) v0_ r ∧ Below w.heap.size w w' := by
  have hu55 := Try.underlying55
  have hu32 := Try.underlying32
  have HR0 := Aside0.mk hr0
  have HR1 := Aside0.mk hr1
  have HR2 := Aside0.mk hr2
  have HC0 := Aside0.mk hc0
  have HC1 := Aside0.mk hc1
  have HC2 := Aside0.mk hc2
  clear hr0 hc0 hr1 hc1 hr2 hc2
  have hr := (Option.some.inj h).symm
  clear h
  subst hr
  cases hok : unitsOkB l0 with
  | false =>
    have hf : spec_UnitsOk.f l0 = some false := by unfold spec_UnitsOk.f; rw [hok]
    have hp : planF l0 l1 l2 = [] := by unfold planF; rw [hok]; rfl
    rw [hp]
    go_enter Try.func36, Try.ntmps36
    go_wp2_with (first | ((with_reducible refine gate_dst (N := 19) rfl ?_); refine Kd.R_lit k55 (w0 := w) w.heap.size 55 ?hg (N := 19) ?hd (xs := ([] : List S55)) (inner := []) (ok := fun _ => True) (okp := fun _ => False) ?hr ?hp (fun _ hk => hk.elim) trivial (Below.refl _ _) (Nat.le_refl _) (by simp) ?_; (case hd => rfl); (case hg => rfl); (case hr => first | (go_simp; done) | (go_simp; rfl)); (case hp => exact (Reps.none _ _)); intro v7 wl ho7 hbl hgl hnewl) | (go_at_call_of 13 (Value.slice A0 l0.length c0); refine (spec_UnitsOk.calls A0 c0 l0 false _ (Kd.C_below HR0.out hbl) HC0.out hf).mono ?_; rintro e w1 ⟨rfl, hb⟩; replace ho7 := Kd.R_below ho7 hb; replace hb := below_weaken hbl hbl.size hb) | fail)
    go_ret
    exact ⟨_, rfl, ho7, hb⟩
  | true =>
    have hf : spec_UnitsOk.f l0 = some true := by unfold spec_UnitsOk.f; rw [hok]
    cases hok1 : unitsOkB l1 with
    | false =>
      have hf1 : spec_UnitsOk.f l1 = some false := by unfold spec_UnitsOk.f; rw [hok1]
      have hp : planF l0 l1 l2 = [] := by unfold planF; rw [hok, hok1]; rfl
      rw [hp]
      go_enter Try.func36, Try.ntmps36
      go_wp2_with (first | ((with_reducible refine gate_dst (N := 19) rfl ?_); refine Kd.R_lit k55 (w0 := w) w.heap.size 55 ?hg (N := 19) ?hd (xs := ([] : List S55)) (inner := []) (ok := fun _ => True) (okp := fun _ => False) ?hr ?hp (fun _ hk => hk.elim) trivial (Below.refl _ _) (Nat.le_refl _) (by simp) ?_; (case hd => rfl); (case hg => rfl); (case hr => first | (go_simp; done) | (go_simp; rfl)); (case hp => exact (Reps.none _ _)); intro v7 wl ho7 hbl hgl hnewl) | (go_at_call_of 13 (Value.slice A0 l0.length c0); refine (spec_UnitsOk.calls A0 c0 l0 true _ (Kd.C_below HR0.out hbl) HC0.out hf).mono ?_; rintro e w1 ⟨rfl, hb⟩; replace ho7 := Kd.R_below ho7 hb; replace hb := below_weaken hbl hbl.size hb) | (go_at_call_of 13 (Value.slice A1 l1.length c1); refine (spec_UnitsOk.calls A1 c1 l1 false _ (Kd.C_below HR1.out hb) HC1.out hf1).mono ?_; rintro e w2 ⟨rfl, hb2⟩; replace ho7 := Kd.R_below ho7 hb2; replace hb2 := below_weaken hb hb.size hb2) | fail)
      go_ret
      exact ⟨_, rfl, ho7, hb2⟩
    | true =>
      have hf1 : spec_UnitsOk.f l1 = some true := by unfold spec_UnitsOk.f; rw [hok1]
      by_cases hl : l2.length ≤ 2000
      · have hd1 : decide ((2000 : Int) < (l2.length : Int)) = false := decide_eq_false (by omega)
        have hd2 : decide (2000 < l2.length) = false := decide_eq_false (by omega)
        have hp : planF l0 l1 l2 = planL l0 l1 l2 := by unfold planF; rw [hok, hok1, decide_eq_true hl]; rfl
        rw [hp]
        have hl0 : l0.length ≤ 100 := (good_of_ok hok).len
        have hl1 : l1.length ≤ 100 := (good_of_ok hok1).len
        have hso := (startL_inv l0).len
        have hso1 := (startL_inv l1).len
        have hw0 : IntKind.i64.wrap ((l0.length : Int) - 1) = (l0.length : Int) - 1 := IntWalk.i64_in _ ⟨by omega, by omega⟩
        go_enter Try.func36, Try.ntmps36
        go_wp2_with (first | ((with_reducible refine gate_dst (N := 19) rfl ?_); refine Kd.R_lit k55 (w0 := w) w.heap.size 55 ?hg (N := 19) ?hd (xs := ([] : List S55)) (inner := []) (ok := fun _ => True) (okp := fun _ => False) ?hr ?hp (fun _ hk => hk.elim) trivial (Below.refl _ _) (Nat.le_refl _) (by simp) ?_; (case hd => rfl); (case hg => rfl); (case hr => first | (go_simp; done) | (go_simp; rfl)); (case hp => exact (Reps.none _ _)); intro v7 wl ho7 hbl hgl hnewl) | (go_at_call_of 13 (Value.slice A0 l0.length c0); refine (spec_UnitsOk.calls A0 c0 l0 true _ (Kd.C_below HR0.out hbl) HC0.out hf).mono ?_; rintro e w1 ⟨rfl, hb⟩; replace ho7 := Kd.R_below ho7 hb; replace hb := below_weaken hbl hbl.size hb) | (go_at_call_of 13 (Value.slice A1 l1.length c1); refine (spec_UnitsOk.calls A1 c1 l1 true _ (Kd.C_below HR1.out hb) HC1.out hf1).mono ?_; rintro e w2 ⟨rfl, hb2⟩; replace ho7 := Kd.R_below ho7 hb2; replace hb2 := below_weaken hb hb.size hb2) | (go_at_call_of 27 (Value.slice A0 l0.length c0); refine (order_c A0 c0 l0 hok _ (Kd.C_below HR0.out hb2) HC0.out).mono ?_; rintro e w4 ⟨v8, b8, rfl, ho8, hb4⟩; have hb5 := below_weaken hb2 hb2.size hb4) | ((with_reducible refine gate_dst (N := 39) rfl ?_); refine Kd.R_lit Kd.string (w0 := w) w.heap.size 9 ?hg (N := 39) ?hd (xs := ([] : List ByteArray)) (inner := []) (ok := fun k => some k ≠ v8.ownBlock) (okp := fun _ => False) ?hr ?hp (fun _ hk => hk.elim) ?hf hb5 hb5.size (by simp) ?_; (case hd => rfl); (case hg => rfl); (case hf => exact (fun e => Nat.lt_irrefl _ (Kd.R_lt ho8 _ e.symm))); (case hr => first | (go_simp; done) | (go_simp; rfl)); (case hp => exact (Reps.none _ _)); intro v9 w6 ho9 hb6 hg6 hnew6) | fail)
        obtain ⟨A8, c8, hv8⟩ := Kd.R_slice ho8
        have HO8 := Aside0.mk (Kd.R_grown2 (Kd.R_lower ho8 hb2.size) rfl hg6 (fun k hk => by cases hk))
        have HO7 := Aside0.mk (Kd.R_grown2 (Kd.R_below ho7 hb4) rfl hg6 (fun k hk => by cases hk))
        have HO9 := Aside0.mk ho9
        have HB6 := Aside0.mk hb6
        clear ho8 ho7 ho9 hb hb2 hb4 hb5 hb6 hg6 hnew6 hbl hgl hnewl
        subst hv8
        go_loopw [11, 10] (fun v10 v9 wr => ∃ (c : Nat) (acc : List ByteArray) (q : Int), v10 = .int .i64 q ∧ q = (c : Int) - 1 ∧ c ≤ l0.length ∧ acc.length + c ≤ l0.length ∧ Aside0 (acc ++ stopA l0 c = stopA l0 l0.length) ∧ Aside0 (Kd.R Kd.string 9 wr w.heap.size (fun k => some k ≠ (Value.slice A8 (startL l0).length c8).ownBlock) v9 acc) ∧ Aside0 (Kd.R Kd.string 9 wr w.heap.size (fun _ => True) (Value.slice A8 (startL l0).length c8) (startL l0)) ∧ Aside0 (Kd.R k55 55 wr w.heap.size (fun _ => True) v7 []) ∧ Aside0 (Below w.heap.size w wr)) (fun v10 _ _ => (intOf v10 + 1).toNat)
        case atStart => exact ⟨l0.length, [], _, rfl, rfl, Nat.le_refl _, by simp, ⟨by simp⟩, HO9, HO8, HO7, HB6⟩
        case round =>
          clear HO9 HO8 HO7 HB6
          obtain ⟨c, acc, q, rfl, hq, hc, hac, HA, HO9, HO8, HO7, HB⟩ := hrel
          cases c with
          | zero =>
            obtain rfl : q = -1 := by omega
            clear hq
            have hacc : acc = stopA l0 l0.length := by
              have := HA.out
              rwa [show stopA l0 0 = [] from rfl, List.append_nil] at this
            have hw1 : IntKind.i64.wrap (((startL l0).length : Int) - 1) = ((startL l0).length : Int) - 1 := IntWalk.i64_in _ ⟨by omega, by omega⟩
            have hal : acc.length ≤ 100 := by omega
            have HAC := Aside0.mk hacc
            clear hacc HA hac
            go_wp2_with fail
            go_loopw [12, 10] (fun v11 v9 wr => ∃ (c : Nat) (st : List ByteArray) (q : Int), v11 = .int .i64 q ∧ q = (c : Int) - 1 ∧ c ≤ (startL l0).length ∧ st.length + c ≤ 200 ∧ Aside0 (st ++ ((startL l0).take c).reverse = stopsL l0) ∧ Aside0 (Kd.R Kd.string 9 wr w.heap.size (fun k => some k ≠ (Value.slice A8 (startL l0).length c8).ownBlock) v9 st) ∧ Aside0 (Kd.R Kd.string 9 wr w.heap.size (fun _ => True) (Value.slice A8 (startL l0).length c8) (startL l0)) ∧ Aside0 (Kd.R k55 55 wr w.heap.size (fun _ => True) v7 []) ∧ Aside0 (Below w.heap.size w wr)) (fun v11 _ _ => (intOf v11 + 1).toNat)
            case atStart => exact ⟨(startL l0).length, acc, _, rfl, rfl, Nat.le_refl _, by omega, ⟨by rw [List.take_length, HAC.out]; rfl⟩, HO9, HO8, HO7, HB⟩
            case round =>
              clear HO9 HO8 HO7 HB HAC hal
              obtain ⟨c, st, q, rfl, hq, hc, hsl, HA, HO9, HO8, HO7, HB⟩ := hrel
              cases c with
              | zero =>
                obtain rfl : q = -1 := by omega
                clear hq
                have hst : st = stopsL l0 := by
                  have := HA.out
                  rwa [List.take_zero, List.reverse_nil, List.append_nil] at this
                have hsl2 := stopsL_len l0
                obtain ⟨A9, c9, hv9⟩ := Kd.R_slice HO9.out
                rw [hst] at HO9 hv9
                subst hv9
                clear hst HA hsl
                go_wp2_with fail
                go_loopw [13, 7] (fun v74 v7 wr => ∃ (i : Nat), v74 = .int .i64 i ∧ i ≤ (stopsL l0).length ∧ Aside0 (Kd.R k55 55 wr w.heap.size (fun _ => True) v7 (((stopsL l0).take i).filterMap (stopAct l1 l2))) ∧ Aside0 (Kd.R Kd.string 9 wr w.heap.size (fun _ => True) (Value.slice A9 (stopsL l0).length c9) (stopsL l0)) ∧ Aside0 (Below w.heap.size w wr)) (fun v74 _ _ => (stopsL l0).length - (intOf v74).toNat)
                case atStart => exact ⟨0, rfl, Nat.zero_le _, HO7, ⟨Kd.R_mono HO9.out (fun _ _ => trivial)⟩, HB⟩
                case round =>
                  clear HO9 HO8 HO7 HB
                  obtain ⟨i, rfl, hi, HO7, HO9, HB⟩ := hrel
                  by_cases hlt : i < (stopsL l0).length
                  · have hsr := Kd.R_reads' HO9.out
                    obtain ⟨ad, hA, x0⟩ := Kd.at_string hsr.2.2 (i : Int) (by omega) (by omega)
                    cases hA
                    rw [rdOf_nat _ _ _ hlt] at x0
                    obtain ⟨s, hs0⟩ : ∃ s, s = (stopsL l0)[i] := ⟨_, rfl⟩
                    rw [← hs0] at x0
                    simp only [Int.toNat_natCast] at x0
                    have hx0 := World.block_lt_of_cell? wr _ x0
                    have HS := Aside0.mk hs0
                    clear hs0 hsr
                    have hfl : (((stopsL l0).take i).filterMap (stopAct l1 l2)).length ≤ 200 := by
                      have := List.length_filterMap_le (stopAct l1 l2) ((stopsL l0).take i)
                      rw [List.length_take] at this
                      omega
                    cases hin : decide (s ∈ l2) with
                    | false =>
                      have he : stopAct l1 l2 (stopsL l0)[i] = none := by rw [← HS.out]; unfold stopAct; rw [hin]; rfl
                      have HF := Aside0.mk (fm_none hlt he)
                      go_wp2_with (first | (go_at_call 51; refine (has_c A2 c2 l2 s _ (Kd.C_below HR2.out HB.out) HC2.out).mono ?_; rintro e w7 ⟨rfl, hb7⟩; rw [hin]; have hB7 := below_weaken HB.out HB.out.size hb7; replace x0 := (hb7.cell hx0).trans x0) | fail)
                      go_roundw
                      case rel => exact ⟨i + 1, by simp, hlt, ⟨by rw [HF.out]; exact Kd.R_below HO7.out hb7⟩, ⟨Kd.R_below HO9.out hb7⟩, ⟨hB7⟩⟩
                      case measure => simp [intOf]; omega
                    | true =>
                      cases hh : hasU l1 s with
                      | true =>
                        have hd4 : decide (findU l1 s < 0) = false := by rw [findU_lt, hh]; rfl
                        have he : stopAct l1 l2 (stopsL l0)[i] = none := by rw [← HS.out]; unfold stopAct; rw [hin, hh]; rfl
                        have HF := Aside0.mk (fm_none hlt he)
                        go_wp2_with (first | (go_at_call 51; refine (has_c A2 c2 l2 s _ (Kd.C_below HR2.out HB.out) HC2.out).mono ?_; rintro e w7 ⟨rfl, hb7⟩; rw [hin]; have hB7 := below_weaken HB.out HB.out.size hb7; replace x0 := (hb7.cell hx0).trans x0) | (go_at_call 52; refine (find_c A1 c1 l1 s _ (Kd.C_below HR1.out hB7) HC1.out (by omega)).mono ?_; rintro e w8 ⟨rfl, hb8⟩; have hB8 := below_weaken hB7 hB7.size hb8; have hO7 := Kd.R_below (Kd.R_below HO7.out hb7) hb8; have hO9 := Kd.R_below (Kd.R_below HO9.out hb7) hb8; replace x0 := (hb8.cell (Nat.lt_of_lt_of_le hx0 hb7.size)).trans x0) | fail)
                        go_roundw
                        case rel => exact ⟨i + 1, by simp, hlt, ⟨by rw [HF.out]; exact hO7⟩, ⟨hO9⟩, ⟨hB8⟩⟩
                        case measure => simp [intOf]; omega
                      | false =>
                        have hd4 : decide (findU l1 s < 0) = true := by rw [findU_lt, hh]; rfl
                        have he : stopAct l1 l2 (stopsL l0)[i] = some ⟨1, s⟩ := by rw [← HS.out]; unfold stopAct; rw [hin, hh]; rfl
                        have HF := Aside0.mk (fm_some hlt he)
                        go_wp2_with (first | (go_at_call 51; refine (has_c A2 c2 l2 s _ (Kd.C_below HR2.out HB.out) HC2.out).mono ?_; rintro e w7 ⟨rfl, hb7⟩; rw [hin]; have hB7 := below_weaken HB.out HB.out.size hb7; replace x0 := (hb7.cell hx0).trans x0) | (go_at_call 52; refine (find_c A1 c1 l1 s _ (Kd.C_below HR1.out hB7) HC1.out (by omega)).mono ?_; rintro e w8 ⟨rfl, hb8⟩; have hB8 := below_weaken hB7 hB7.size hb8; have hO7 := Kd.R_below (Kd.R_below HO7.out hb7) hb8; have hO9 := Kd.R_below (Kd.R_below HO9.out hb7) hb8; replace x0 := (hb8.cell (Nat.lt_of_lt_of_le hx0 hb7.size)).trans x0) | ((with_reducible refine gate_builtin (b := .append) (xs := #[.tmp 98, .tmp 104]) rfl ?_); at_builtin; refine Kd.R_append k55 (w0 := w) w.heap.size rfl (.tmp 98) (.tmp 104) 51 55 (.agg #[(.int .i64 0), (.string ⟨#[]⟩)]) 24 rfl Try.underlying51 info55 rfl (by decide) (by omega) u7 (((stopsL l0).take i).filterMap (stopAct l1 l2)) (⟨1, s⟩ : S55) [.int .i64 1, .string s] (fun _ => True) (fun _ => False) rfl rfl ?aP (fun _ hk => hk.elim) (fun _ _ => trivial) hO7 hB8 hB8.size ?aL ?_; (case aP => exact k55_mkM _ _ _ (⟨1, s⟩ : S55)); (case aL => omega); intro v1 wz hoz hbz hgz hatz) | fail)
                        go_roundw
                        case rel => exact ⟨i + 1, by simp, hlt, ⟨by rw [HF.out]; exact hoz⟩, ⟨Kd.R_over' hO9 (Kd.R_typed hO7) (by decide) hgz⟩, ⟨hbz⟩⟩
                        case measure => simp [intOf]; omega
                  · have hie : i = (stopsL l0).length := by omega
                    subst hie
                    rw [List.take_length] at HO7
                    have hfl : ((stopsL l0).filterMap (stopAct l1 l2)).length ≤ 200 := by
                      have := List.length_filterMap_le (stopAct l1 l2) (stopsL l0)
                      omega
                    go_wp2_with (first | (go_at_call 27; refine (order_c A1 c1 l1 hok1 _ (Kd.C_below HR1.out HB.out) HC1.out).mono ?_; rintro e w7 ⟨v94, b94, rfl, ho94, hb7⟩; obtain ⟨A10, c10, hv94⟩ := Kd.R_slice ho94; subst hv94) | fail)
                    have HO94 := Aside0.mk (Kd.R_lower ho94 HB.out.size)
                    have HO77 := Aside0.mk (Kd.R_below HO7.out hb7)
                    have HB77 := Aside0.mk (below_weaken HB.out HB.out.size hb7)
                    clear ho94 hb7 HO7 HB HO9
                    go_loopw [16, 7] (fun v96 v7 wr => ∃ (i : Nat), v96 = .int .i64 i ∧ i ≤ (startL l1).length ∧ Aside0 (Kd.R k55 55 wr w.heap.size (fun _ => True) v7 ((stopsL l0).filterMap (stopAct l1 l2) ++ ((startL l1).take i).filterMap (startAct l0 l1 l2))) ∧ Aside0 (Kd.R Kd.string 9 wr w.heap.size (fun _ => True) (Value.slice A10 (startL l1).length c10) (startL l1)) ∧ Aside0 (Below w.heap.size w wr)) (fun v96 _ _ => (startL l1).length - (intOf v96).toNat)
                    case atStart => exact ⟨0, rfl, Nat.zero_le _, ⟨by simpa using HO77.out⟩, HO94, HB77⟩
                    case round =>
                      clear HO77 HO94 HB77
                      obtain ⟨i, rfl, hi, HO7, HO9, HB⟩ := hrel
                      by_cases hlt : i < (startL l1).length
                      · have hsr := Kd.R_reads' HO9.out
                        obtain ⟨ad, hA, x0⟩ := Kd.at_string hsr.2.2 (i : Int) (by omega) (by omega)
                        cases hA
                        rw [rdOf_nat _ _ _ hlt] at x0
                        have hhas := hasU_start (List.getElem_mem hlt)
                        obtain ⟨s, hs0⟩ : ∃ s, s = (startL l1)[i] := ⟨_, rfl⟩
                        rw [← hs0] at x0 hhas
                        simp only [Int.toNat_natCast] at x0
                        have hx0 := World.block_lt_of_cell? wr _ x0
                        have HS := Aside0.mk hs0
                        clear hs0 hsr
                        have hf0 : 0 ≤ findU l1 s := by have := (findU_ge l1 s); rw [hhas] at this; simpa using this
                        have hf1 := findU_bound l1 s
                        obtain ⟨B, B1, d1, B2, d2, hA1, y0, y1, y2, y3, y4, _, _, _, _⟩ := at_T32 HR1.out (findU l1 s) hf0 hf1
                        cases hA1
                        have hex : (rd_T32 l1 (findU l1 s)).f3 = execU l1 s := rfl
                        have hkp : (rd_T32 l1 (findU l1 s)).f4 = keepU l1 s := rfl
                        obtain ⟨n, hn⟩ : ∃ n, n = rd_T32 l1 (findU l1 s) := ⟨_, rfl⟩
                        rw [← hn] at y0 y1 y2 y3 y4 hex hkp
                        have HEX := Aside0.mk hex
                        have HKP := Aside0.mk hkp
                        clear hn hex hkp
                        replace y0 := (HB.out.cell (World.block_lt_of_cell? w _ y0)).trans y0
                        replace y1 := (HB.out.cell (World.block_lt_of_cell? w _ y1)).trans y1
                        replace y2 := (HB.out.cell (World.block_lt_of_cell? w _ y2)).trans y2
                        replace y3 := (HB.out.cell (World.block_lt_of_cell? w _ y3)).trans y3
                        replace y4 := (HB.out.cell (World.block_lt_of_cell? w _ y4)).trans y4
                        have hy0 := World.block_lt_of_cell? wr _ y0
                        have hy1 := World.block_lt_of_cell? wr _ y1
                        have hy2 := World.block_lt_of_cell? wr _ y2
                        have hy3 := World.block_lt_of_cell? wr _ y3
                        have hy4 := World.block_lt_of_cell? wr _ y4
                        have hf0' := eq_true hf0
                        have hf1' := eq_true hf1
                        have hlen : ((stopsL l0).filterMap (stopAct l1 l2) ++ ((startL l1).take i).filterMap (startAct l0 l1 l2)).length ≤ 400 := by
                          have := List.length_filterMap_le (startAct l0 l1 l2) ((startL l1).take i)
                          rw [List.length_take] at this
                          rw [List.length_append]
                          omega
                        obtain ⟨P, hP⟩ : ∃ P, P = (stopsL l0).filterMap (stopAct l1 l2) ++ ((startL l1).take i).filterMap (startAct l0 l1 l2) := ⟨_, rfl⟩
                        rw [← hP] at HO7 hlen
                        have HP := Aside0.mk hP
                        clear hP
                        cases hin : decide (s ∈ l2) with
                        | false =>
                          have HF := Aside0.mk (fm_some hlt (by rw [← HS.out]; exact start_in (old := l0) (new := l1) hin))
                          go_wp2_with (first | (go_at_call_of 52 (Value.slice (some B) l1.length c1); refine (find_c (some B) c1 l1 s _ (Kd.C_below HR1.out HB.out) HC1.out (by omega)).mono ?_; rintro e w7 ⟨rfl, hb7⟩; replace y0 := (hb7.cell hy0).trans y0; replace y1 := (hb7.cell hy1).trans y1; replace y2 := (hb7.cell hy2).trans y2; replace y3 := (hb7.cell hy3).trans y3; replace y4 := (hb7.cell hy4).trans y4; have hBa := below_alloc (below_weaken HB.out HB.out.size hb7) (.cells #[Value.string n.f0, Value.slice B1 n.f1.length d1, Value.slice B2 n.f2.length d2, Value.string n.f3, Value.bool n.f4] 32); have hbA := below_alloc hb7 (.cells #[Value.string n.f0, Value.slice B1 n.f1.length d1, Value.slice B2 n.f2.length d2, Value.string n.f3, Value.bool n.f4] 32); replace x0 := (hbA.cell hx0).trans x0; have hO7a := Kd.R_alloc (Kd.R_below HO7.out hb7) (.cells #[Value.string n.f0, Value.slice B1 n.f1.length d1, Value.slice B2 n.f2.length d2, Value.string n.f3, Value.bool n.f4] 32); have hO9a := Kd.R_alloc (Kd.R_below HO9.out hb7) (.cells #[Value.string n.f0, Value.slice B1 n.f1.length d1, Value.slice B2 n.f2.length d2, Value.string n.f3, Value.bool n.f4] 32); have hnew := cell_new34 w7 (s := Value.string n.f0) (a := Value.slice B1 n.f1.length d1) (b := Value.slice B2 n.f2.length d2) (c := Value.string n.f3) (d := Value.bool n.f4); have hszn : w7.heap.size < (w7.alloc (.cells #[Value.string n.f0, Value.slice B1 n.f1.length d1, Value.slice B2 n.f2.length d2, Value.string n.f3, Value.bool n.f4] 32)).heap.size := blk_lt (blk_new _ _)) | (go_at_call_of 52 (Value.slice A0 l0.length c0); refine (find_c A0 c0 l0 s _ (Kd.C_below HR0.out hBa) HC0.out (by omega)).mono ?_; rintro e w8 ⟨rfl, hb8⟩; have hB8 := below_weaken hBa hBa.size hb8; have hO7b := Kd.R_below hO7a hb8; have hO9b := Kd.R_below hO9a hb8; have n3 := (hb8.cell (p := ⟨w7.heap.size, 3, none⟩) hszn).trans hnew.1; have n4 := (hb8.cell (p := ⟨w7.heap.size, 4, none⟩) hszn).trans hnew.2; have hszm := Nat.lt_of_lt_of_le hszn hb8.size; replace x0 := (hb8.cell (Nat.lt_of_lt_of_le hx0 hbA.size)).trans x0) | (go_at_call 51; refine (has_c A2 c2 l2 s _ (Kd.C_below HR2.out hB8) HC2.out).mono ?_; rintro e w9 ⟨rfl, hb9⟩; rw [hin]; have hB9 := below_weaken hB8 hB8.size hb9; have hO7' := Kd.R_below hO7b hb9; have hO9' := Kd.R_below hO9b hb9; have m3 := (hb9.cell (p := ⟨w7.heap.size, 3, none⟩) hszm).trans n3; have m4 := (hb9.cell (p := ⟨w7.heap.size, 4, none⟩) hszm).trans n4; clear n3 n4; replace x0 := (hb9.cell (Nat.lt_of_lt_of_le (Nat.lt_of_lt_of_le hx0 hbA.size) hb8.size)).trans x0) | ((with_reducible refine gate_builtin (b := .append) (xs := #[.tmp 139, .tmp 145]) rfl ?_); at_builtin; refine Kd.R_append k55 (w0 := w) w.heap.size rfl (.tmp 139) (.tmp 145) 51 55 (.agg #[(.int .i64 0), (.string ⟨#[]⟩)]) 24 rfl Try.underlying51 info55 rfl (by decide) (by omega) u7 P (⟨2, s⟩ : S55) [.int .i64 2, .string s] (fun _ => True) (fun _ => False) rfl rfl ?aP (fun _ hk => hk.elim) (fun _ _ => trivial) hO7' hB9 hB9.size ?aL ?_; (case aP => exact k55_mkM _ _ _ (⟨2, s⟩ : S55)); (case aL => omega); intro v1 wz hoz hbz hgz hatz) | fail)
                          go_roundw
                          case rel => exact ⟨i + 1, by simp, hlt, ⟨by rw [HF.out, ← List.append_assoc, ← HP.out]; exact hoz⟩, ⟨Kd.R_over' hO9' (Kd.R_typed hO7') (by decide) hgz⟩, ⟨hbz⟩⟩
                          case measure => simp [intOf]; omega
                        | true =>
                          have skip : restB l0 l1 s = false → Aside0 ((stopsL l0).filterMap (stopAct l1 l2) ++ ((startL l1).take (i + 1)).filterMap (startAct l0 l1 l2) = P) := fun h => ⟨by rw [fm_none hlt (by rw [← HS.out]; exact start_out hin h), ← HP.out]⟩
                          cases hh : hasU l0 s with
                          | false =>
                            have hd5 : decide ((0 : Int) ≤ findU l0 s) = false := by rw [findU_has, hh]
                            have HF := skip (by unfold restB; rw [hh]; rfl)
                            go_wp2_with (first | (go_at_call_of 52 (Value.slice (some B) l1.length c1); refine (find_c (some B) c1 l1 s _ (Kd.C_below HR1.out HB.out) HC1.out (by omega)).mono ?_; rintro e w7 ⟨rfl, hb7⟩; replace y0 := (hb7.cell hy0).trans y0; replace y1 := (hb7.cell hy1).trans y1; replace y2 := (hb7.cell hy2).trans y2; replace y3 := (hb7.cell hy3).trans y3; replace y4 := (hb7.cell hy4).trans y4; have hBa := below_alloc (below_weaken HB.out HB.out.size hb7) (.cells #[Value.string n.f0, Value.slice B1 n.f1.length d1, Value.slice B2 n.f2.length d2, Value.string n.f3, Value.bool n.f4] 32); have hbA := below_alloc hb7 (.cells #[Value.string n.f0, Value.slice B1 n.f1.length d1, Value.slice B2 n.f2.length d2, Value.string n.f3, Value.bool n.f4] 32); replace x0 := (hbA.cell hx0).trans x0; have hO7a := Kd.R_alloc (Kd.R_below HO7.out hb7) (.cells #[Value.string n.f0, Value.slice B1 n.f1.length d1, Value.slice B2 n.f2.length d2, Value.string n.f3, Value.bool n.f4] 32); have hO9a := Kd.R_alloc (Kd.R_below HO9.out hb7) (.cells #[Value.string n.f0, Value.slice B1 n.f1.length d1, Value.slice B2 n.f2.length d2, Value.string n.f3, Value.bool n.f4] 32); have hnew := cell_new34 w7 (s := Value.string n.f0) (a := Value.slice B1 n.f1.length d1) (b := Value.slice B2 n.f2.length d2) (c := Value.string n.f3) (d := Value.bool n.f4); have hszn : w7.heap.size < (w7.alloc (.cells #[Value.string n.f0, Value.slice B1 n.f1.length d1, Value.slice B2 n.f2.length d2, Value.string n.f3, Value.bool n.f4] 32)).heap.size := blk_lt (blk_new _ _)) | (go_at_call_of 52 (Value.slice A0 l0.length c0); refine (find_c A0 c0 l0 s _ (Kd.C_below HR0.out hBa) HC0.out (by omega)).mono ?_; rintro e w8 ⟨rfl, hb8⟩; have hB8 := below_weaken hBa hBa.size hb8; have hO7b := Kd.R_below hO7a hb8; have hO9b := Kd.R_below hO9a hb8; have n3 := (hb8.cell (p := ⟨w7.heap.size, 3, none⟩) hszn).trans hnew.1; have n4 := (hb8.cell (p := ⟨w7.heap.size, 4, none⟩) hszn).trans hnew.2; have hszm := Nat.lt_of_lt_of_le hszn hb8.size; replace x0 := (hb8.cell (Nat.lt_of_lt_of_le hx0 hbA.size)).trans x0) | (go_at_call 51; refine (has_c A2 c2 l2 s _ (Kd.C_below HR2.out hB8) HC2.out).mono ?_; rintro e w9 ⟨rfl, hb9⟩; rw [hin]; have hB9 := below_weaken hB8 hB8.size hb9; have hO7' := Kd.R_below hO7b hb9; have hO9' := Kd.R_below hO9b hb9; have m3 := (hb9.cell (p := ⟨w7.heap.size, 3, none⟩) hszm).trans n3; have m4 := (hb9.cell (p := ⟨w7.heap.size, 4, none⟩) hszm).trans n4; clear n3 n4; replace x0 := (hb9.cell (Nat.lt_of_lt_of_le (Nat.lt_of_lt_of_le hx0 hbA.size) hb8.size)).trans x0) | fail)
                            go_quiet (fail)
                            go_wp2_with fail
                            go_roundw
                            case rel => exact ⟨i + 1, by simp, hlt, ⟨by rw [HF.out]; exact Kd.R_drewN hO7' _⟩, ⟨Kd.R_drewN hO9' _⟩, ⟨pw_below_drewN hB9 _⟩⟩
                            case measure => simp [intOf]; omega
                          | true =>
                            have hd5 : decide ((0 : Int) ≤ findU l0 s) = true := by rw [findU_has, hh]
                            have hg0 : 0 ≤ findU l0 s := of_decide_eq_true hd5
                            have hg1 := findU_bound l0 s
                            obtain ⟨E, E1, e1, E2, e2, hA0, z0, z1, z2, z3, z4, _, _, _, _⟩ := at_T32 HR0.out (findU l0 s) hg0 hg1
                            cases hA0
                            have hex0 : (rd_T32 l0 (findU l0 s)).f3 = execU l0 s := rfl
                            obtain ⟨m, hm⟩ : ∃ m, m = (rd_T32 l0 (findU l0 s)).f3 := ⟨_, rfl⟩
                            rw [← hm] at z3 hex0
                            have HEX0 := Aside0.mk hex0
                            have Z := Aside0.mk z3
                            clear hm hex0 z0 z1 z2 z3 z4
                            have hg0' := eq_true hg0
                            have hg1' := eq_true hg1
                            by_cases he : m = n.f3
                            · subst he
                              have HF := skip (by unfold restB; rw [hh, decide_eq_true (HEX0.out.symm.trans HEX.out)]; rfl)
                              have hq1 : (n.f3.toList == n.f3.toList) = true := beq_self_eq_true _
                              go_wp2_with (first | (go_at_call_of 52 (Value.slice (some B) l1.length c1); refine (find_c (some B) c1 l1 s _ (Kd.C_below HR1.out HB.out) HC1.out (by omega)).mono ?_; rintro e w7 ⟨rfl, hb7⟩; replace y0 := (hb7.cell hy0).trans y0; replace y1 := (hb7.cell hy1).trans y1; replace y2 := (hb7.cell hy2).trans y2; replace y3 := (hb7.cell hy3).trans y3; replace y4 := (hb7.cell hy4).trans y4; have hBa := below_alloc (below_weaken HB.out HB.out.size hb7) (.cells #[Value.string n.f0, Value.slice B1 n.f1.length d1, Value.slice B2 n.f2.length d2, Value.string n.f3, Value.bool n.f4] 32); have hbA := below_alloc hb7 (.cells #[Value.string n.f0, Value.slice B1 n.f1.length d1, Value.slice B2 n.f2.length d2, Value.string n.f3, Value.bool n.f4] 32); replace x0 := (hbA.cell hx0).trans x0; have hO7a := Kd.R_alloc (Kd.R_below HO7.out hb7) (.cells #[Value.string n.f0, Value.slice B1 n.f1.length d1, Value.slice B2 n.f2.length d2, Value.string n.f3, Value.bool n.f4] 32); have hO9a := Kd.R_alloc (Kd.R_below HO9.out hb7) (.cells #[Value.string n.f0, Value.slice B1 n.f1.length d1, Value.slice B2 n.f2.length d2, Value.string n.f3, Value.bool n.f4] 32); have hnew := cell_new34 w7 (s := Value.string n.f0) (a := Value.slice B1 n.f1.length d1) (b := Value.slice B2 n.f2.length d2) (c := Value.string n.f3) (d := Value.bool n.f4); have hszn : w7.heap.size < (w7.alloc (.cells #[Value.string n.f0, Value.slice B1 n.f1.length d1, Value.slice B2 n.f2.length d2, Value.string n.f3, Value.bool n.f4] 32)).heap.size := blk_lt (blk_new _ _)) | (go_at_call_of 52 (Value.slice (some E) l0.length c0); refine (find_c (some E) c0 l0 s _ (Kd.C_below HR0.out hBa) HC0.out (by omega)).mono ?_; rintro e w8 ⟨rfl, hb8⟩; have hB8 := below_weaken hBa hBa.size hb8; have hO7b := Kd.R_below hO7a hb8; have hO9b := Kd.R_below hO9a hb8; have n3 := (hb8.cell (p := ⟨w7.heap.size, 3, none⟩) hszn).trans hnew.1; have n4 := (hb8.cell (p := ⟨w7.heap.size, 4, none⟩) hszn).trans hnew.2; have hszm := Nat.lt_of_lt_of_le hszn hb8.size; replace x0 := (hb8.cell (Nat.lt_of_lt_of_le hx0 hbA.size)).trans x0) | (go_at_call 51; refine (has_c A2 c2 l2 s _ (Kd.C_below HR2.out hB8) HC2.out).mono ?_; rintro e w9 ⟨rfl, hb9⟩; rw [hin]; have hB9 := below_weaken hB8 hB8.size hb9; have hO7' := Kd.R_below hO7b hb9; have hO9' := Kd.R_below hO9b hb9; have m3 := (hb9.cell (p := ⟨w7.heap.size, 3, none⟩) hszm).trans n3; have m4 := (hb9.cell (p := ⟨w7.heap.size, 4, none⟩) hszm).trans n4; clear n3 n4; replace x0 := (hb9.cell (Nat.lt_of_lt_of_le (Nat.lt_of_lt_of_le hx0 hbA.size) hb8.size)).trans x0; have m0 := (hB9.cell (World.block_lt_of_cell? w _ Z.out)).trans Z.out) | fail)
                              go_quiet (fail)
                              go_wp2_with fail
                              go_roundw
                              case rel => exact ⟨i + 1, by simp, hlt, ⟨by rw [HF.out]; exact Kd.R_drewN hO7' _⟩, ⟨Kd.R_drewN hO9' _⟩, ⟨pw_below_drewN hB9 _⟩⟩
                              case measure => simp [intOf]; omega
                            · have hne : ¬ m.toList = n.f3.toList := fun h => he (toList_inj h)
                              have hq1 : (m.toList == n.f3.toList) = false := beq_eq_false_iff_ne.2 hne
                              have hres : ∀ b, n.f4 = b → restB l0 l1 s = !b := fun b hb => by
                                unfold restB
                                rw [hh, decide_eq_false (fun h => he (HEX0.out.trans (h.trans HEX.out.symm))), ← HKP.out, hb]
                                rfl
                              cases hk : n.f4 with
                              | true =>
                                have HF := skip (hres true hk)
                                have HK := Aside0.mk hk
                                clear hk hres
                                go_wp2_with (first | (go_at_call_of 52 (Value.slice (some B) l1.length c1); refine (find_c (some B) c1 l1 s _ (Kd.C_below HR1.out HB.out) HC1.out (by omega)).mono ?_; rintro e w7 ⟨rfl, hb7⟩; replace y0 := (hb7.cell hy0).trans y0; replace y1 := (hb7.cell hy1).trans y1; replace y2 := (hb7.cell hy2).trans y2; replace y3 := (hb7.cell hy3).trans y3; replace y4 := (hb7.cell hy4).trans y4; have hBa := below_alloc (below_weaken HB.out HB.out.size hb7) (.cells #[Value.string n.f0, Value.slice B1 n.f1.length d1, Value.slice B2 n.f2.length d2, Value.string n.f3, Value.bool n.f4] 32); have hbA := below_alloc hb7 (.cells #[Value.string n.f0, Value.slice B1 n.f1.length d1, Value.slice B2 n.f2.length d2, Value.string n.f3, Value.bool n.f4] 32); replace x0 := (hbA.cell hx0).trans x0; have hO7a := Kd.R_alloc (Kd.R_below HO7.out hb7) (.cells #[Value.string n.f0, Value.slice B1 n.f1.length d1, Value.slice B2 n.f2.length d2, Value.string n.f3, Value.bool n.f4] 32); have hO9a := Kd.R_alloc (Kd.R_below HO9.out hb7) (.cells #[Value.string n.f0, Value.slice B1 n.f1.length d1, Value.slice B2 n.f2.length d2, Value.string n.f3, Value.bool n.f4] 32); have hnew := cell_new34 w7 (s := Value.string n.f0) (a := Value.slice B1 n.f1.length d1) (b := Value.slice B2 n.f2.length d2) (c := Value.string n.f3) (d := Value.bool n.f4); have hszn : w7.heap.size < (w7.alloc (.cells #[Value.string n.f0, Value.slice B1 n.f1.length d1, Value.slice B2 n.f2.length d2, Value.string n.f3, Value.bool n.f4] 32)).heap.size := blk_lt (blk_new _ _)) | (go_at_call_of 52 (Value.slice (some E) l0.length c0); refine (find_c (some E) c0 l0 s _ (Kd.C_below HR0.out hBa) HC0.out (by omega)).mono ?_; rintro e w8 ⟨rfl, hb8⟩; have hB8 := below_weaken hBa hBa.size hb8; have hO7b := Kd.R_below hO7a hb8; have hO9b := Kd.R_below hO9a hb8; have n3 := (hb8.cell (p := ⟨w7.heap.size, 3, none⟩) hszn).trans hnew.1; have n4 := (hb8.cell (p := ⟨w7.heap.size, 4, none⟩) hszn).trans hnew.2; have hszm := Nat.lt_of_lt_of_le hszn hb8.size; replace x0 := (hb8.cell (Nat.lt_of_lt_of_le hx0 hbA.size)).trans x0) | (go_at_call 51; refine (has_c A2 c2 l2 s _ (Kd.C_below HR2.out hB8) HC2.out).mono ?_; rintro e w9 ⟨rfl, hb9⟩; rw [hin]; have hB9 := below_weaken hB8 hB8.size hb9; have hO7' := Kd.R_below hO7b hb9; have hO9' := Kd.R_below hO9b hb9; have m3 := (hb9.cell (p := ⟨w7.heap.size, 3, none⟩) hszm).trans n3; have m4 := (hb9.cell (p := ⟨w7.heap.size, 4, none⟩) hszm).trans n4; clear n3 n4; replace x0 := (hb9.cell (Nat.lt_of_lt_of_le (Nat.lt_of_lt_of_le hx0 hbA.size) hb8.size)).trans x0; have m0 := (hB9.cell (World.block_lt_of_cell? w _ Z.out)).trans Z.out; rw [HK.out] at m4) | fail)
                                go_quiet (fail)
                                go_wp2_with fail
                                go_roundw
                                case rel => exact ⟨i + 1, by simp, hlt, ⟨by rw [HF.out]; exact Kd.R_drewN hO7' _⟩, ⟨Kd.R_drewN hO9' _⟩, ⟨pw_below_drewN hB9 _⟩⟩
                                case measure => simp [intOf]; omega
                              | false =>
                                have HF := Aside0.mk (fm_some hlt (by rw [← HS.out]; exact start_re (old := l0) (new := l1) hin (hres false hk)))
                                have HK := Aside0.mk hk
                                clear hk hres
                                go_wp2_with (first | (go_at_call_of 52 (Value.slice (some B) l1.length c1); refine (find_c (some B) c1 l1 s _ (Kd.C_below HR1.out HB.out) HC1.out (by omega)).mono ?_; rintro e w7 ⟨rfl, hb7⟩; replace y0 := (hb7.cell hy0).trans y0; replace y1 := (hb7.cell hy1).trans y1; replace y2 := (hb7.cell hy2).trans y2; replace y3 := (hb7.cell hy3).trans y3; replace y4 := (hb7.cell hy4).trans y4; have hBa := below_alloc (below_weaken HB.out HB.out.size hb7) (.cells #[Value.string n.f0, Value.slice B1 n.f1.length d1, Value.slice B2 n.f2.length d2, Value.string n.f3, Value.bool n.f4] 32); have hbA := below_alloc hb7 (.cells #[Value.string n.f0, Value.slice B1 n.f1.length d1, Value.slice B2 n.f2.length d2, Value.string n.f3, Value.bool n.f4] 32); replace x0 := (hbA.cell hx0).trans x0; have hO7a := Kd.R_alloc (Kd.R_below HO7.out hb7) (.cells #[Value.string n.f0, Value.slice B1 n.f1.length d1, Value.slice B2 n.f2.length d2, Value.string n.f3, Value.bool n.f4] 32); have hO9a := Kd.R_alloc (Kd.R_below HO9.out hb7) (.cells #[Value.string n.f0, Value.slice B1 n.f1.length d1, Value.slice B2 n.f2.length d2, Value.string n.f3, Value.bool n.f4] 32); have hnew := cell_new34 w7 (s := Value.string n.f0) (a := Value.slice B1 n.f1.length d1) (b := Value.slice B2 n.f2.length d2) (c := Value.string n.f3) (d := Value.bool n.f4); have hszn : w7.heap.size < (w7.alloc (.cells #[Value.string n.f0, Value.slice B1 n.f1.length d1, Value.slice B2 n.f2.length d2, Value.string n.f3, Value.bool n.f4] 32)).heap.size := blk_lt (blk_new _ _)) | (go_at_call_of 52 (Value.slice (some E) l0.length c0); refine (find_c (some E) c0 l0 s _ (Kd.C_below HR0.out hBa) HC0.out (by omega)).mono ?_; rintro e w8 ⟨rfl, hb8⟩; have hB8 := below_weaken hBa hBa.size hb8; have hO7b := Kd.R_below hO7a hb8; have hO9b := Kd.R_below hO9a hb8; have n3 := (hb8.cell (p := ⟨w7.heap.size, 3, none⟩) hszn).trans hnew.1; have n4 := (hb8.cell (p := ⟨w7.heap.size, 4, none⟩) hszn).trans hnew.2; have hszm := Nat.lt_of_lt_of_le hszn hb8.size; replace x0 := (hb8.cell (Nat.lt_of_lt_of_le hx0 hbA.size)).trans x0) | (go_at_call 51; refine (has_c A2 c2 l2 s _ (Kd.C_below HR2.out hB8) HC2.out).mono ?_; rintro e w9 ⟨rfl, hb9⟩; rw [hin]; have hB9 := below_weaken hB8 hB8.size hb9; have hO7' := Kd.R_below hO7b hb9; have hO9' := Kd.R_below hO9b hb9; have m3 := (hb9.cell (p := ⟨w7.heap.size, 3, none⟩) hszm).trans n3; have m4 := (hb9.cell (p := ⟨w7.heap.size, 4, none⟩) hszm).trans n4; clear n3 n4; replace x0 := (hb9.cell (Nat.lt_of_lt_of_le (Nat.lt_of_lt_of_le hx0 hbA.size) hb8.size)).trans x0; have m0 := (hB9.cell (World.block_lt_of_cell? w _ Z.out)).trans Z.out; rw [HK.out] at m4) | fail)
                                go_quiet (fail)
                                have hO7q := Kd.R_drewN hO7' nq
                                have hO9q := Kd.R_drewN hO9' nq
                                have hB9q := pw_below_drewN hB9 nq
                                have x0q : (w9.drewN nq).cell? (ad.add i) = some (.string s) := x0
                                go_wp2_with (first | ((with_reducible refine gate_builtin (b := .append) (xs := #[.tmp 164, .tmp 170]) rfl ?_); at_builtin; refine Kd.R_append k55 (w0 := w) w.heap.size rfl (.tmp 164) (.tmp 170) 51 55 (.agg #[(.int .i64 0), (.string ⟨#[]⟩)]) 24 rfl Try.underlying51 info55 rfl (by decide) (by omega) u7 P (⟨3, s⟩ : S55) [.int .i64 3, .string s] (fun _ => True) (fun _ => False) rfl rfl ?aP (fun _ hk => hk.elim) (fun _ _ => trivial) hO7q hB9q hB9q.size ?aL ?_; (case aP => exact k55_mkM _ _ _ (⟨3, s⟩ : S55)); (case aL => omega); intro v1 wz hoz hbz hgz hatz) | fail)
                                go_roundw
                                case rel => exact ⟨i + 1, by simp, hlt, ⟨by rw [HF.out, ← List.append_assoc, ← HP.out]; exact hoz⟩, ⟨Kd.R_over' hO9q (Kd.R_typed hO7q) (by decide) hgz⟩, ⟨hbz⟩⟩
                                case measure => simp [intOf]; omega
                      · have hie : i = (startL l1).length := by omega
                        subst hie
                        rw [List.take_length] at HO7
                        obtain ⟨A7, c7, hv7⟩ := Kd.R_slice HO7.out
                        subst hv7
                        go_wp2_with fail
                        go_ret
                        exact ⟨_, rfl, HO7.out, HB.out⟩
              | succ c =>
                obtain rfl : q = (c : Int) := by omega
                clear hq
                have hcl : c < (startL l0).length := by omega
                have hrs := rev_step hcl
                rw [hrs] at HA
                clear hrs
                have hsr := Kd.R_reads' HO8.out
                obtain ⟨ad, hA, x0⟩ := Kd.at_string hsr.2.2 (c : Int) (by omega) (by omega)
                cases hA
                rw [rdOf_nat _ _ _ hcl] at x0
                obtain ⟨u, hu0⟩ : ∃ u, u = (startL l0)[c] := ⟨_, rfl⟩
                rw [← hu0] at x0 HA
                simp only [Int.toNat_natCast] at x0
                clear hu0 hsr
                have hw2 : IntKind.i64.wrap ((c : Int) - 1) = (c : Int) - 1 := IntWalk.i64_in _ ⟨by omega, by omega⟩
                go_wp2_with (first | ((with_reducible refine gate_builtin (b := .append) (xs := #[.tmp 70, .tmp 75]) rfl ?_); at_builtin; refine Kd.R_append Kd.string (w0 := w) w.heap.size rfl (.tmp 70) (.tmp 75) 25 9 (.string ⟨#[]⟩) 16 rfl Try.underlying25 info9 rfl (by decide) (by omega) u10 st u [.string u] (fun k => some k ≠ (Value.slice (some ad) (startL l0).length c8).ownBlock) (fun _ => False) rfl rfl ?aP (fun _ hk => hk.elim) ?aF HO9.out HB.out HB.out.size ?aL ?_; (case aP => exact rfl); (case aF => exact (fun k hk e => absurd (Kd.R_lt HO8.out k e.symm) (by omega))); (case aL => omega); intro v1 w7 ho7 hb7 hg7 hat7) | fail)
                go_roundw
                case rel => exact ⟨c, st ++ [u], _, rfl, rfl, by omega, by simp; omega, ⟨by rw [List.append_assoc]; exact HA.out⟩, ⟨ho7⟩, ⟨Kd.R_grown2 HO8.out rfl hg7 (fun k hk => HO9.out.1 k hk)⟩, ⟨Kd.R_over' HO7.out (Kd.R_typed HO9.out) (by decide) hg7⟩, ⟨hb7⟩⟩
                case measure => simp [intOf]
          | succ c =>
            obtain rfl : q = (c : Int) := by omega
            clear hq
            have hcl : c < l0.length := by omega
            have hstp := stopA_step hcl
            rw [hstp] at HA
            clear hstp
            obtain ⟨ad, B1, d1, B2, d2, hA, x0, _, _, _, _, _, _, _, _⟩ := at_T32 HR0.out (c : Int) (by omega) (by omega)
            cases hA
            rw [rd_T32_nat l0 c hcl] at x0
            obtain ⟨u, hu0⟩ : ∃ u, u = l0[c].f0 := ⟨_, rfl⟩
            rw [← hu0] at x0 HA
            simp only [Int.toNat_natCast] at x0
            clear hu0
            replace x0 := (HB.out.cell (World.block_lt_of_cell? w _ x0)).trans x0
            have hw2 : IntKind.i64.wrap ((c : Int) - 1) = (c : Int) - 1 := IntWalk.i64_in _ ⟨by omega, by omega⟩
            have hblk := World.block_lt_of_cell? wr _ x0
            cases hin : decide (u ∈ startL l0) with
            | true =>
              rw [hin] at HA
              go_wp2_with (first | (go_at_call 51; refine (has_c A8 c8 (startL l0) u _ (Kd.R_reads' HO8.out).2.2 (Kd.R_reads' HO8.out).2.1).mono ?_; rintro e w7 ⟨rfl, hb7⟩; rw [hin]) | fail)
              go_roundw
              case rel => exact ⟨c, acc, _, rfl, rfl, by omega, by omega, ⟨by simpa using HA.out⟩, ⟨Kd.R_below HO9.out hb7⟩, ⟨Kd.R_below HO8.out hb7⟩, ⟨Kd.R_below HO7.out hb7⟩, ⟨below_weaken HB.out HB.out.size hb7⟩⟩
              case measure => simp [intOf]
            | false =>
              rw [hin] at HA
              go_wp2_with (first | (go_at_call 51; refine (has_c A8 c8 (startL l0) u _ (Kd.R_reads' HO8.out).2.2 (Kd.R_reads' HO8.out).2.1).mono ?_; rintro e w7 ⟨rfl, hb7⟩; rw [hin]; replace x0 := (hb7.cell hblk).trans x0; have ho9 := Kd.R_below HO9.out hb7; have ho8 := Kd.R_below HO8.out hb7; have ho7 := Kd.R_below HO7.out hb7; have hB7 := below_weaken HB.out HB.out.size hb7) | ((with_reducible refine gate_builtin (b := .append) (xs := #[.tmp 55, .tmp 61]) rfl ?_); at_builtin; refine Kd.R_append Kd.string (w0 := w) w.heap.size rfl (.tmp 55) (.tmp 61) 25 9 (.string ⟨#[]⟩) 16 rfl Try.underlying25 info9 rfl (by decide) (by omega) u10 acc u [.string u] (fun k => some k ≠ (Value.slice A8 (startL l0).length c8).ownBlock) (fun _ => False) rfl rfl ?aP (fun _ hk => hk.elim) ?aF ho9 hB7 hB7.size ?aL ?_; (case aP => exact rfl); (case aF => exact (fun k hk e => absurd (Kd.R_lt ho8 k e.symm) (by omega))); (case aL => omega); intro v1 w8 ho91 hb8 hg8 hat8) | fail)
              go_roundw
              case rel => exact ⟨c, acc ++ [u], _, rfl, rfl, by omega, by simp; omega, ⟨by rw [List.append_assoc]; exact HA.out⟩, ⟨ho91⟩, ⟨Kd.R_grown2 ho8 rfl hg8 (fun k hk => ho9.1 k hk)⟩, ⟨Kd.R_over' ho7 (Kd.R_typed ho9) (by decide) hg8⟩, ⟨hb8⟩⟩
              case measure => simp [intOf]
      · have hd1 : decide ((2000 : Int) < (l2.length : Int)) = true := decide_eq_true (by omega)
        have hd2 : decide (2000 < l2.length) = true := decide_eq_true (by omega)
        have hp : planF l0 l1 l2 = [] := by unfold planF; rw [hok, hok1, decide_eq_false hl]; rfl
        rw [hp]
        go_enter Try.func36, Try.ntmps36
        go_wp2_with (first | ((with_reducible refine gate_dst (N := 19) rfl ?_); refine Kd.R_lit k55 (w0 := w) w.heap.size 55 ?hg (N := 19) ?hd (xs := ([] : List S55)) (inner := []) (ok := fun _ => True) (okp := fun _ => False) ?hr ?hp (fun _ hk => hk.elim) trivial (Below.refl _ _) (Nat.le_refl _) (by simp) ?_; (case hd => rfl); (case hg => rfl); (case hr => first | (go_simp; done) | (go_simp; rfl)); (case hp => exact (Reps.none _ _)); intro v7 wl ho7 hbl hgl hnewl) | (go_at_call_of 13 (Value.slice A0 l0.length c0); refine (spec_UnitsOk.calls A0 c0 l0 true _ (Kd.C_below HR0.out hbl) HC0.out hf).mono ?_; rintro e w1 ⟨rfl, hb⟩; replace ho7 := Kd.R_below ho7 hb; replace hb := below_weaken hbl hbl.size hb) | (go_at_call_of 13 (Value.slice A1 l1.length c1); refine (spec_UnitsOk.calls A1 c1 l1 true _ (Kd.C_below HR1.out hb) HC1.out hf1).mono ?_; rintro e w2 ⟨rfl, hb2⟩; replace ho7 := Kd.R_below ho7 hb2; replace hb2 := below_weaken hb hb.size hb2) | fail)
        go_ret
        exact ⟨_, rfl, ho7, hb2⟩
end Go.Proofs.Ytnjmhlhlmokjnaa.G
namespace Go.Proofs.Ytnjmhlhlmokjnaa.G
open Go.RowKit Go.Proofs.YtnjmhlhlmokjnaaW.PrintWords Go.Proofs.YtnjmhlhlmokjnaaW.PrintLast Go.Proofs.YtnjmhlhlmokjnaaW.PrintMore
attribute [local go_sem] max2_int min2_int max_two min_two max_three min_three max_four min_four
set_option linter.unusedVariables false
set_option linter.unusedSimpArgs false
def laws_big.f (l0 : List Int) : Option (Bool) := some (decide ((l0.length : Int) > 1048576))
set_option maxHeartbeats 8000000 in
set_option maxRecDepth 100000 in
theorem laws_big.calls (A0 : Option Addr) (c0 : Nat) (l0 : List Int) (r : Bool) (w : World) (hr0 : Kd.C (Kd.int .u8) w A0 l0.length l0) (hc0 : l0.length ≤ c0) (h : laws_big.f l0 = some r) :
    Calls Try.prog 10 #[.slice A0 l0.length c0] w fun e w' => e = .returned (.bool r) ∧ Drawn0 w w' := by
  have HR0 := Aside0.mk hr0
  have HC0 := Aside0.mk hc0
  clear hr0 hc0
  have H : (some (decide ((l0.length : Int) > 1048576))) = some r := h
  clear h
  obtain rfl := Option.some.inj H
  go_enter Try.func10, Try.ntmps10
  go_wp2
  go_ret
  exact ⟨by first | rfl | (simp; done) | (simp [*]; done), by repeat (first | exact Drawn0.refl _ | apply Drawn0.step)⟩
end Go.Proofs.Ytnjmhlhlmokjnaa.G
namespace Go.Proofs.Ytnjmhlhlmokjnaa.G
open Go.RowKit Go.Proofs.YtnjmhlhlmokjnaaW.PrintWords Go.Proofs.YtnjmhlhlmokjnaaW.PrintLast Go.Proofs.YtnjmhlhlmokjnaaW.PrintMore
attribute [local go_sem] max2_int min2_int max_two min_two max_three min_three max_four min_four
set_option linter.unusedVariables false
set_option linter.unusedSimpArgs false
def laws_has.l0 : Nat → List ByteArray → ByteArray → Int → Option (Bool)
  | 0, _, _, _ => none
  | k + 1, x0, x1, x5 => if x5 < (x0.length : Int) then (if 0 ≤ x5 then (if (rdOf ByteArray.empty x0 x5).toList = x1.toList then (some true) else (laws_has.l0 k x0 x1 (wrap64 (x5 + 1)))) else (none)) else (some false)
def laws_has.f (k : Nat) (l0 : List ByteArray) (a1 : ByteArray) : Option (Bool) := laws_has.l0 k l0 a1 0
set_option maxHeartbeats 8000000 in
set_option maxRecDepth 100000 in
theorem laws_has.calls (k : Nat) (A0 : Option Addr) (c0 : Nat) (l0 : List ByteArray) (a1 : ByteArray) (r : Bool) (w : World) (hr0 : Kd.C Kd.string w A0 l0.length l0) (hc0 : l0.length ≤ c0) (h : laws_has.f k l0 a1 = some r) :
    Calls Try.prog 16 #[.slice A0 l0.length c0, .string a1] w fun e w' => e = .returned (.bool r) ∧ Drawn0 w w' := by
  have HR0 := Aside0.mk hr0
  have HC0 := Aside0.mk hc0
  clear hr0 hc0
  have H : (laws_has.l0 k l0 a1 0) = some r := h
  clear h
  have H' := Aside0.mk H
  clear H
  go_enter Try.func16, Try.ntmps16
  go_wp2
  go_loopg [5] k (fun kq v5 w' => ∃ (x5_1 : Int), v5 = .int .i64 x5_1 ∧ Aside0 (laws_has.l0 kq l0 a1 x5_1 = some r) ∧ Aside0 (kq ≤ k) ∧ Drawn0 w w')
  case atStart => exact ⟨(0), (by first | rfl | (simp; done) | (simp [*]; done)), H', ⟨Nat.le_refl _⟩, by repeat (first | exact Drawn0.refl _ | apply Drawn0.step)⟩
  case round =>
    clear H'
    try clear c1
    try clear p2
    obtain ⟨x5_1, rfl, HA, HK1, ⟨m1, rfl⟩⟩ := hrel
    cases gk with
    | zero => exact absurd HA.out (by simp [laws_has.l0])
    | succ k1 =>
      have H := HA.out
      clear HA
      simp only [laws_has.l0] at H
      by_cases c3 : x5_1 < (l0.length : Int)
      · rw [if_pos c3] at H
        have c3b0 : decide (x5_1 < (l0.length : Int)) = true := decide_eq_true c3
        clear c3
        by_cases c4 : 0 ≤ x5_1
        · rw [if_pos c4] at H
          have c4b0 : decide (0 ≤ x5_1) = true := decide_eq_true c4
          clear c4
          by_cases c5 : (rdOf ByteArray.empty l0 x5_1).toList = a1.toList
          · rw [if_pos c5] at H
            have c5b0 : ((rdOf ByteArray.empty l0 x5_1).toList == a1.toList) = true := beq_iff_eq.mpr c5
            have c5b1 : ((rdOf ByteArray.empty l0 x5_1).toList != a1.toList) = false := bne_eq_false_iff_eq.mpr c5
            clear c5
            obtain rfl := Option.some.inj H
            have p115 : 0 ≤ (x5_1 : Int) := of_decide_eq_true (by first | (with_reducible assumption) | assumption)
            have q115 : x5_1 < (l0.length : Int) := of_decide_eq_true (by first | (with_reducible assumption) | assumption)
            obtain ⟨ad115, e115, hx115_0⟩ := Kd.at_string HR0.out x5_1 p115 q115
            cases e115
            replace p115 := eq_true p115
            replace q115 := eq_true q115
            go_wp2
            go_ret
            exact ⟨by first | rfl | (simp; done) | (simp [*]; done), by repeat (first | exact Drawn0.refl _ | apply Drawn0.step)⟩
          · rw [if_neg c5] at H
            have c5b0 : ((rdOf ByteArray.empty l0 x5_1).toList == a1.toList) = false := beq_eq_false_iff_ne.mpr c5
            have c5b1 : ((rdOf ByteArray.empty l0 x5_1).toList != a1.toList) = true := bne_iff_ne.mpr c5
            have H' := Aside0.mk H
            clear H
            have p115 : 0 ≤ (x5_1 : Int) := of_decide_eq_true (by first | (with_reducible assumption) | assumption)
            have q115 : x5_1 < (l0.length : Int) := of_decide_eq_true (by first | (with_reducible assumption) | assumption)
            obtain ⟨ad115, e115, hx115_0⟩ := Kd.at_string HR0.out x5_1 p115 q115
            cases e115
            replace p115 := eq_true p115
            replace q115 := eq_true q115
            go_wp2
            go_roundg k1
            case measure => have := HK1.out; omega
            case rel => exact ⟨(wrap64 (x5_1 + 1)), (by first | rfl | (simp; done) | (simp [*]; done)), H', ⟨by have := HK1.out; omega⟩, by repeat (first | exact Drawn0.refl _ | apply Drawn0.step)⟩
        · rw [if_neg c4] at H
          exact absurd H (by simp)
      · rw [if_neg c3] at H
        have c3b0 : decide (x5_1 < (l0.length : Int)) = false := decide_eq_false c3
        clear c3
        obtain rfl := Option.some.inj H
        go_wp2
        go_ret
        exact ⟨by first | rfl | (simp; done) | (simp [*]; done), by repeat (first | exact Drawn0.refl _ | apply Drawn0.step)⟩
end Go.Proofs.Ytnjmhlhlmokjnaa.G
namespace Go.Proofs.Ytnjmhlhlmokjnaa.G
open Go.RowKit Go.Proofs.YtnjmhlhlmokjnaaW.PrintWords Go.Proofs.YtnjmhlhlmokjnaaW.PrintLast Go.Proofs.YtnjmhlhlmokjnaaW.PrintMore
attribute [local go_sem] max2_int min2_int max_two min_two max_three min_three max_four min_four
set_option linter.unusedVariables false
set_option linter.unusedSimpArgs false
def laws_sameTexts.l0 : Nat → List ByteArray → List ByteArray → Int → Option (Bool)
  | 0, _, _, _ => none
  | k + 1, x0, x1, x5 => if x5 < (x0.length : Int) then (if 0 ≤ x5 then (if x5 < (x1.length : Int) then (if (rdOf ByteArray.empty x0 x5).toList = (rdOf ByteArray.empty x1 x5).toList then (laws_sameTexts.l0 k x0 x1 (wrap64 (x5 + 1))) else (some false)) else (none)) else (none)) else (some true)
def laws_sameTexts.f (k : Nat) (l0 : List ByteArray) (l1 : List ByteArray) : Option (Bool) := if (l0.length : Int) = (l1.length : Int) then (laws_sameTexts.l0 k l0 l1 0) else (some false)
set_option maxHeartbeats 8000000 in
set_option maxRecDepth 100000 in
theorem laws_sameTexts.calls (k : Nat) (A0 : Option Addr) (c0 : Nat) (l0 : List ByteArray) (A1 : Option Addr) (c1 : Nat) (l1 : List ByteArray) (r : Bool) (w : World) (hr0 : Kd.C Kd.string w A0 l0.length l0) (hc0 : l0.length ≤ c0) (hr1 : Kd.C Kd.string w A1 l1.length l1) (hc1 : l1.length ≤ c1) (h : laws_sameTexts.f k l0 l1 = some r) :
    Calls Try.prog 37 #[.slice A0 l0.length c0, .slice A1 l1.length c1] w fun e w' => e = .returned (.bool r) ∧ Drawn0 w w' := by
  have HR0 := Aside0.mk hr0
  have HC0 := Aside0.mk hc0
  clear hr0 hc0
  have HR1 := Aside0.mk hr1
  have HC1 := Aside0.mk hc1
  clear hr1 hc1
  have H : (if (l0.length : Int) = (l1.length : Int) then (laws_sameTexts.l0 k l0 l1 0) else (some false)) = some r := h
  clear h
  by_cases c3 : (l0.length : Int) = (l1.length : Int)
  · rw [if_pos c3] at H
    have c3b0 : ((l0.length : Int) == (l1.length : Int)) = true := beq_iff_eq.mpr c3
    have c3b1 : ((l0.length : Int) != (l1.length : Int)) = false := bne_eq_false_iff_eq.mpr c3
    have c3b2 : (l0.length == l1.length) = true := by first | simpa using c3 | (simp at c3 ⊢; omega)
    clear c3
    have H' := Aside0.mk H
    clear H
    go_enter Try.func37, Try.ntmps37
    go_wp2
    repeat (go_quiet (fail); try go_wp2)
    go_loopg [5] k (fun kq v5 w' => ∃ (x5_1 : Int), v5 = .int .i64 x5_1 ∧ Aside0 (laws_sameTexts.l0 kq l0 l1 x5_1 = some r) ∧ Aside0 (kq ≤ k) ∧ Drawn0 w w')
    case atStart => exact ⟨(0), (by first | rfl | (simp; done) | (simp [*]; done)), H', ⟨Nat.le_refl _⟩, by repeat (first | exact Drawn0.refl _ | apply Drawn0.step)⟩
    case round =>
      clear H'
      try clear c1
      try clear p2
      try clear c3
      try clear c3b0
      try clear c3b1
      try clear c3b2
      obtain ⟨x5_1, rfl, HA, HK1, ⟨m1, rfl⟩⟩ := hrel
      cases gk with
      | zero => exact absurd HA.out (by simp [laws_sameTexts.l0])
      | succ k1 =>
        have H := HA.out
        clear HA
        simp only [laws_sameTexts.l0] at H
        by_cases c4 : x5_1 < (l0.length : Int)
        · rw [if_pos c4] at H
          have c4b0 : decide (x5_1 < (l0.length : Int)) = true := decide_eq_true c4
          clear c4
          by_cases c5 : 0 ≤ x5_1
          · rw [if_pos c5] at H
            have c5b0 : decide (0 ≤ x5_1) = true := decide_eq_true c5
            clear c5
            by_cases c6 : x5_1 < (l1.length : Int)
            · rw [if_pos c6] at H
              have c6b0 : decide (x5_1 < (l1.length : Int)) = true := decide_eq_true c6
              clear c6
              by_cases c7 : (rdOf ByteArray.empty l0 x5_1).toList = (rdOf ByteArray.empty l1 x5_1).toList
              · rw [if_pos c7] at H
                have c7b0 : ((rdOf ByteArray.empty l0 x5_1).toList == (rdOf ByteArray.empty l1 x5_1).toList) = true := beq_iff_eq.mpr c7
                have c7b1 : ((rdOf ByteArray.empty l0 x5_1).toList != (rdOf ByteArray.empty l1 x5_1).toList) = false := bne_eq_false_iff_eq.mpr c7
                clear c7
                have H' := Aside0.mk H
                clear H
                have p215 : 0 ≤ (x5_1 : Int) := of_decide_eq_true (by first | (with_reducible assumption) | assumption)
                have q215 : x5_1 < (l0.length : Int) := of_decide_eq_true (by first | (with_reducible assumption) | assumption)
                obtain ⟨ad215, e215, hx215_0⟩ := Kd.at_string HR0.out x5_1 p215 q215
                cases e215
                replace p215 := eq_true p215
                replace q215 := eq_true q215
                have p216 : 0 ≤ (x5_1 : Int) := of_decide_eq_true (by first | (with_reducible assumption) | assumption)
                have q216 : x5_1 < (l1.length : Int) := of_decide_eq_true (by first | (with_reducible assumption) | assumption)
                obtain ⟨ad216, e216, hx216_0⟩ := Kd.at_string HR1.out x5_1 p216 q216
                cases e216
                replace p216 := eq_true p216
                replace q216 := eq_true q216
                go_wp2
                repeat (go_quiet (fail); try go_wp2)
                go_roundg k1
                case measure => have := HK1.out; omega
                case rel => exact ⟨(wrap64 (x5_1 + 1)), (by first | rfl | (simp; done) | (simp [*]; done)), H', ⟨by have := HK1.out; omega⟩, by repeat (first | exact Drawn0.refl _ | apply Drawn0.step)⟩
              · rw [if_neg c7] at H
                have c7b0 : ((rdOf ByteArray.empty l0 x5_1).toList == (rdOf ByteArray.empty l1 x5_1).toList) = false := beq_eq_false_iff_ne.mpr c7
                have c7b1 : ((rdOf ByteArray.empty l0 x5_1).toList != (rdOf ByteArray.empty l1 x5_1).toList) = true := bne_iff_ne.mpr c7
                obtain rfl := Option.some.inj H
                have p215 : 0 ≤ (x5_1 : Int) := of_decide_eq_true (by first | (with_reducible assumption) | assumption)
                have q215 : x5_1 < (l0.length : Int) := of_decide_eq_true (by first | (with_reducible assumption) | assumption)
                obtain ⟨ad215, e215, hx215_0⟩ := Kd.at_string HR0.out x5_1 p215 q215
                cases e215
                replace p215 := eq_true p215
                replace q215 := eq_true q215
                have p216 : 0 ≤ (x5_1 : Int) := of_decide_eq_true (by first | (with_reducible assumption) | assumption)
                have q216 : x5_1 < (l1.length : Int) := of_decide_eq_true (by first | (with_reducible assumption) | assumption)
                obtain ⟨ad216, e216, hx216_0⟩ := Kd.at_string HR1.out x5_1 p216 q216
                cases e216
                replace p216 := eq_true p216
                replace q216 := eq_true q216
                go_wp2
                repeat (go_quiet (fail); try go_wp2)
                go_ret
                exact ⟨by first | rfl | (simp; done) | (simp [*]; done), by repeat (first | exact Drawn0.refl _ | apply Drawn0.step)⟩
            · rw [if_neg c6] at H
              exact absurd H (by simp)
          · rw [if_neg c5] at H
            exact absurd H (by simp)
        · rw [if_neg c4] at H
          have c4b0 : decide (x5_1 < (l0.length : Int)) = false := decide_eq_false c4
          clear c4
          obtain rfl := Option.some.inj H
          go_wp2
          repeat (go_quiet (fail); try go_wp2)
          go_ret
          exact ⟨by first | rfl | (simp; done) | (simp [*]; done), by repeat (first | exact Drawn0.refl _ | apply Drawn0.step)⟩
  · rw [if_neg c3] at H
    have c3b0 : ((l0.length : Int) == (l1.length : Int)) = false := beq_eq_false_iff_ne.mpr c3
    have c3b1 : ((l0.length : Int) != (l1.length : Int)) = true := bne_iff_ne.mpr c3
    have c3b2 : (l0.length == l1.length) = false := by first | simpa using c3 | (simp at c3 ⊢; omega)
    obtain rfl := Option.some.inj H
    go_enter Try.func37, Try.ntmps37
    go_wp2
    repeat (go_quiet (fail); try go_wp2)
    go_ret
    exact ⟨by first | rfl | (simp; done) | (simp [*]; done), by repeat (first | exact Drawn0.refl _ | apply Drawn0.step)⟩
end Go.Proofs.Ytnjmhlhlmokjnaa.G
namespace Go.Proofs.Ytnjmhlhlmokjnaa.G
open Go.RowKit Go.Proofs.YtnjmhlhlmokjnaaW.PrintWords Go.Proofs.YtnjmhlhlmokjnaaW.PrintLast Go.Proofs.YtnjmhlhlmokjnaaW.PrintMore
attribute [local go_sem] max2_int min2_int max_two min_two max_three min_three max_four min_four
set_option linter.unusedVariables false
set_option linter.unusedSimpArgs false
def laws_unit.l0 : Nat → List (S32) → ByteArray → Int → Option (Int)
  | 0, _, _, _ => none
  | k + 1, x0, x1, x5 => if x5 < (x0.length : Int) then (if 0 ≤ x5 then (if ((rd_T32 x0 x5).f0).toList = x1.toList then (some x5) else (laws_unit.l0 k x0 x1 (wrap64 (x5 + 1)))) else (none)) else (some (-1))
def laws_unit.f (k : Nat) (l0 : List (S32)) (a1 : ByteArray) : Option (Int) := laws_unit.l0 k l0 a1 0
set_option maxHeartbeats 8000000 in
set_option maxRecDepth 100000 in
theorem laws_unit.calls (k : Nat) (A0 : Option Addr) (c0 : Nat) (l0 : List (S32)) (a1 : ByteArray) (r : Int) (w : World) (hr0 : Kd.C k32 w A0 l0.length l0) (hc0 : l0.length ≤ c0) (h : laws_unit.f k l0 a1 = some r) :
    Calls Try.prog 17 #[.slice A0 l0.length c0, .string a1] w fun e w' => e = .returned (.int .i64 r) ∧ Drawn0 w w' := by
  have HR0 := Aside0.mk hr0
  have HC0 := Aside0.mk hc0
  clear hr0 hc0
  have H : (laws_unit.l0 k l0 a1 0) = some r := h
  clear h
  have H' := Aside0.mk H
  clear H
  go_enter Try.func17, Try.ntmps17
  go_wp2
  go_loopg [5] k (fun kq v5 w' => ∃ (x5_1 : Int), v5 = .int .i64 x5_1 ∧ Aside0 (laws_unit.l0 kq l0 a1 x5_1 = some r) ∧ Aside0 (kq ≤ k) ∧ Drawn0 w w')
  case atStart => exact ⟨(0), (by first | rfl | (simp; done) | (simp [*]; done)), H', ⟨Nat.le_refl _⟩, by repeat (first | exact Drawn0.refl _ | apply Drawn0.step)⟩
  case round =>
    clear H'
    try clear c1
    try clear p2
    obtain ⟨x5_1, rfl, HA, HK1, ⟨m1, rfl⟩⟩ := hrel
    cases gk with
    | zero => exact absurd HA.out (by simp [laws_unit.l0])
    | succ k1 =>
      have H := HA.out
      clear HA
      simp only [laws_unit.l0] at H
      by_cases c3 : x5_1 < (l0.length : Int)
      · rw [if_pos c3] at H
        have c3b0 : decide (x5_1 < (l0.length : Int)) = true := decide_eq_true c3
        clear c3
        by_cases c4 : 0 ≤ x5_1
        · rw [if_pos c4] at H
          have c4b0 : decide (0 ≤ x5_1) = true := decide_eq_true c4
          clear c4
          by_cases c5 : ((rd_T32 l0 x5_1).f0).toList = a1.toList
          · rw [if_pos c5] at H
            have c5b0 : (((rd_T32 l0 x5_1).f0).toList == a1.toList) = true := beq_iff_eq.mpr c5
            have c5b1 : (((rd_T32 l0 x5_1).f0).toList != a1.toList) = false := bne_eq_false_iff_eq.mpr c5
            clear c5
            obtain rfl := Option.some.inj H
            have p116 : 0 ≤ (x5_1 : Int) := of_decide_eq_true (by first | (with_reducible assumption) | assumption)
            have q116 : x5_1 < (l0.length : Int) := of_decide_eq_true (by first | (with_reducible assumption) | assumption)
            obtain ⟨ad116, A116_1, c116_1, A116_2, c116_2, e116, hx116_0, hx116_1, hx116_2, hx116_3, hx116_4, hl116_1, hi116_1, hl116_2, hi116_2⟩ := at_T32 HR0.out x5_1 p116 q116
            cases e116
            have HR116_1 := Aside0.mk hi116_1
            have HC116_1 := Aside0.mk hl116_1
            clear hi116_1 hl116_1
            have HR116_2 := Aside0.mk hi116_2
            have HC116_2 := Aside0.mk hl116_2
            clear hi116_2 hl116_2
            replace p116 := eq_true p116
            replace q116 := eq_true q116
            go_wp2
            go_ret
            exact ⟨by first | rfl | (simp; done) | (simp [*]; done), by repeat (first | exact Drawn0.refl _ | apply Drawn0.step)⟩
          · rw [if_neg c5] at H
            have c5b0 : (((rd_T32 l0 x5_1).f0).toList == a1.toList) = false := beq_eq_false_iff_ne.mpr c5
            have c5b1 : (((rd_T32 l0 x5_1).f0).toList != a1.toList) = true := bne_iff_ne.mpr c5
            have H' := Aside0.mk H
            clear H
            have p116 : 0 ≤ (x5_1 : Int) := of_decide_eq_true (by first | (with_reducible assumption) | assumption)
            have q116 : x5_1 < (l0.length : Int) := of_decide_eq_true (by first | (with_reducible assumption) | assumption)
            obtain ⟨ad116, A116_1, c116_1, A116_2, c116_2, e116, hx116_0, hx116_1, hx116_2, hx116_3, hx116_4, hl116_1, hi116_1, hl116_2, hi116_2⟩ := at_T32 HR0.out x5_1 p116 q116
            cases e116
            have HR116_1 := Aside0.mk hi116_1
            have HC116_1 := Aside0.mk hl116_1
            clear hi116_1 hl116_1
            have HR116_2 := Aside0.mk hi116_2
            have HC116_2 := Aside0.mk hl116_2
            clear hi116_2 hl116_2
            replace p116 := eq_true p116
            replace q116 := eq_true q116
            go_wp2
            go_roundg k1
            case measure => have := HK1.out; omega
            case rel => exact ⟨(wrap64 (x5_1 + 1)), (by first | rfl | (simp; done) | (simp [*]; done)), H', ⟨by have := HK1.out; omega⟩, by repeat (first | exact Drawn0.refl _ | apply Drawn0.step)⟩
        · rw [if_neg c4] at H
          exact absurd H (by simp)
      · rw [if_neg c3] at H
        have c3b0 : decide (x5_1 < (l0.length : Int)) = false := decide_eq_false c3
        clear c3
        obtain rfl := Option.some.inj H
        go_wp2
        go_ret
        exact ⟨by first | rfl | (simp; done) | (simp [*]; done), by repeat (first | exact Drawn0.refl _ | apply Drawn0.step)⟩
end Go.Proofs.Ytnjmhlhlmokjnaa.G
namespace Go.Proofs.Ytnjmhlhlmokjnaa.G
open Go.RowKit Go.Proofs.YtnjmhlhlmokjnaaW.PrintWords Go.Proofs.YtnjmhlhlmokjnaaW.PrintLast Go.Proofs.YtnjmhlhlmokjnaaW.PrintMore
attribute [local go_sem] max2_int min2_int max_two min_two max_three min_three max_four min_four
set_option linter.unusedVariables false
set_option linter.unusedSimpArgs false
def IsS84 (w0 W : World) (g : Nat) (f0 : List Int) (f1 : Int) (f2 : Int) : Prop := ∃ A0 c0, W.heap[g]? = some (.cells #[.slice A0 f0.length c0, .int .i64 f1, .int .i64 f2] 84 (0, 0)) ∧ w0.heap.size ≤ g ∧ Kd.C (Kd.int .u8) w0 A0 f0.length f0
theorem IsS84.grown {w0 W : World} {g : Nat} {f0 : List Int} {f1 : Int} {f2 : Int} {W1 : World} {row : Option Nat} (h : IsS84 w0 W g f0 f1 f2) (hw : W.grownBy W1 row) (hne : some g ≠ row) : IsS84 w0 W1 g f0 f1 f2 := by
  obtain ⟨A0, c0, hb, hg, hr0⟩ := h
  exact ⟨A0, c0, blk_grown hb hw hne, hg, hr0⟩
theorem IsS84.kept {w0 W : World} {g : Nat} {f0 : List Int} {f1 : Int} {f2 : Int} {W1 : World} {S : Nat → Prop} (h : IsS84 w0 W g f0 f1 f2) (hk : Kept W W1 S) (hne : ¬ S g) : IsS84 w0 W1 g f0 f1 f2 := by
  obtain ⟨A0, c0, hb, hg, hr0⟩ := h
  exact ⟨A0, c0, blk_kept hb hk hne, hg, hr0⟩
theorem IsS84.below {w0 W : World} {g : Nat} {f0 : List Int} {f1 : Int} {f2 : Int} {W1 : World} (h : IsS84 w0 W g f0 f1 f2) (hw : Below W.heap.size W W1) : IsS84 w0 W1 g f0 f1 f2 := h.grown (grown_of_below hw none) (by simp)
theorem IsS84.alloc {w0 W : World} {g : Nat} {f0 : List Int} {f1 : Int} {f2 : Int} (h : IsS84 w0 W g f0 f1 f2) (o : Obj) : IsS84 w0 (W.alloc o) g f0 f1 f2 := h.below (below_alloc (Below.refl _ _) o)
theorem IsS84.drewN {w0 W : World} {g : Nat} {f0 : List Int} {f1 : Int} {f2 : Int} (h : IsS84 w0 W g f0 f1 f2) (m : Nat) : IsS84 w0 (W.drewN m) g f0 f1 f2 := h
theorem IsS84.drew {w0 W : World} {g : Nat} {f0 : List Int} {f1 : Int} {f2 : Int} (h : IsS84 w0 W g f0 f1 f2) : IsS84 w0 W.drew g f0 f1 f2 := h
theorem IsS84.at_ {w0 W : World} {g : Nat} {f0 : List Int} {f1 : Int} {f2 : Int} {w' : World} {m : Nat} (hq : W.drewN m = w') (h : IsS84 w0 W g f0 f1 f2) : IsS84 w0 w' g f0 f1 f2 := by subst hq; exact IsS84.drewN h m
theorem IsS84.apart {w0 W : World} {g : Nat} {f0 : List Int} {f1 : Int} {f2 : Int} {α : Type} {d : Kd α} {e : Nat} {base : Nat} {ok : Nat → Prop} {v : Value} {xs : List α} (h : IsS84 w0 W g f0 f1 f2) (ho : d.R e W base ok v xs) (ht : ∀ q, q ∈ e :: d.E → q ≠ 84) : d.R e W base (fun k => ok k ∧ k ≠ g) v xs := by
  obtain ⟨A0, c0, hb, hg, hr0⟩ := h
  exact Kd.R_types ho hb ht
theorem IsS84.own_ne {w0 W : World} {g : Nat} {f0 : List Int} {f1 : Int} {f2 : Int} {α : Type} {d : Kd α} {e : Nat} {base : Nat} {ok : Nat → Prop} {v : Value} {xs : List α} (h : IsS84 w0 W g f0 f1 f2) (ho : d.R e W base ok v xs) (ht : e ≠ 84) : some g ≠ v.ownBlock := by
  obtain ⟨A0, c0, hb, hg, hr0⟩ := h
  exact Kd.R_ne ho hb ht
theorem IsS84.apartS {w0 W : World} {g : Nat} {f0 : List Int} {f1 : Int} {f2 : Int} {α : Type} {d : Kd α} {e : Nat} {base : Nat} {ok : Nat → Prop} {v : Value} {xs : List α} (h : IsS84 w0 W g f0 f1 f2) (ho : d.S e W base ok v xs) (ht : ∀ q, q ∈ e :: d.E → q ≠ 84) : d.S e W base (fun k => ok k ∧ k ≠ g) v xs := by
  obtain ⟨A0, c0, hb, hg, hr0⟩ := h
  exact Kd.S_types ho hb ht
theorem IsS84.own_neS {w0 W : World} {g : Nat} {f0 : List Int} {f1 : Int} {f2 : Int} {α : Type} {d : Kd α} {e : Nat} {base : Nat} {ok : Nat → Prop} {v : Value} {xs : List α} (h : IsS84 w0 W g f0 f1 f2) (ho : d.S e W base ok v xs) (ht : e ≠ 84) : some g ≠ v.ownBlock := by
  obtain ⟨A0, c0, hb, hg, hr0⟩ := h
  exact Kd.S_ne ho hb ht
theorem IsS84.lt {w0 W : World} {g : Nat} {f0 : List Int} {f1 : Int} {f2 : Int} (h : IsS84 w0 W g f0 f1 f2) : g < W.heap.size := by
  obtain ⟨A0, c0, hb, hg, hr0⟩ := h
  exact blk_lt hb
theorem IsS84.ge {w0 W : World} {g : Nat} {f0 : List Int} {f1 : Int} {f2 : Int} (h : IsS84 w0 W g f0 f1 f2) : w0.heap.size ≤ g := by
  obtain ⟨A0, c0, hb, hg, hr0⟩ := h
  exact hg
theorem IsS84.far {w0 W : World} {g : Nat} {f0 : List Int} {f1 : Int} {f2 : Int} {p : Addr} (h : IsS84 w0 W g f0 f1 f2) (hne : g ≠ p.block) (u : Value) : IsS84 w0 (W.setCell p u) g f0 f1 f2 := by
  obtain ⟨A0, c0, hb, hg, hr0⟩ := h
  exact ⟨A0, c0, blk_far hb hne u, hg, hr0⟩
theorem cellS84_0 {W : World} {g : Nat} {A0 : Option Addr} {c0 : Nat} {f0 : List Int} {f1 : Int} {f2 : Int} (h : W.heap[g]? = some (.cells #[.slice A0 f0.length c0, .int .i64 f1, .int .i64 f2] 84 (0, 0))) : W.cell? ⟨g, 0, none⟩ = some (.slice A0 f0.length c0) := (blk_cell h 0).trans rfl
theorem cellS84_1 {W : World} {g : Nat} {A0 : Option Addr} {c0 : Nat} {f0 : List Int} {f1 : Int} {f2 : Int} (h : W.heap[g]? = some (.cells #[.slice A0 f0.length c0, .int .i64 f1, .int .i64 f2] 84 (0, 0))) : W.cell? ⟨g, 1, none⟩ = some (.int .i64 f1) := (blk_cell h 1).trans rfl
theorem IsS84.set_1 {w0 W : World} {g : Nat} {f0 : List Int} {f1 : Int} {f2 : Int} (h : IsS84 w0 W g f0 f1 f2) (x : Int) : IsS84 w0 (W.setCell ⟨g, 1, none⟩ (.int .i64 x)) g f0 x f2 := by
  obtain ⟨A0, c0, hb, hg, hr0⟩ := h
  exact ⟨A0, c0, by simpa using blk_set hb 1 (.int .i64 x), hg, hr0⟩
theorem cellS84_2 {W : World} {g : Nat} {A0 : Option Addr} {c0 : Nat} {f0 : List Int} {f1 : Int} {f2 : Int} (h : W.heap[g]? = some (.cells #[.slice A0 f0.length c0, .int .i64 f1, .int .i64 f2] 84 (0, 0))) : W.cell? ⟨g, 2, none⟩ = some (.int .i64 f2) := (blk_cell h 2).trans rfl
theorem IsS84.set_2 {w0 W : World} {g : Nat} {f0 : List Int} {f1 : Int} {f2 : Int} (h : IsS84 w0 W g f0 f1 f2) (x : Int) : IsS84 w0 (W.setCell ⟨g, 2, none⟩ (.int .i64 x)) g f0 f1 x := by
  obtain ⟨A0, c0, hb, hg, hr0⟩ := h
  exact ⟨A0, c0, by simpa using blk_set hb 2 (.int .i64 x), hg, hr0⟩
theorem IsS84.new (w0 W : World) (A0 : Option Addr) (c0 : Nat) (f0 : List Int) (f1 : Int) (f2 : Int) (hB : Below w0.heap.size w0 W) (hr0 : Kd.C (Kd.int .u8) w0 A0 f0.length f0) : IsS84 w0 (W.alloc (.cells #[.slice A0 f0.length c0, .int .i64 f1, .int .i64 f2] 84)) W.heap.size f0 f1 f2 := ⟨A0, c0, by simpa using heap_alloc_new W _, hB.size, hr0⟩
def spec_l1New.l0 : Nat → List Int → Int → Int → Option (List Int × Int × Int)
  | 0, _, _, _ => none
  | k + 1, x0, x3, x4 => if x4 < (x0.length : Int) then (if 0 ≤ x4 then (spec_l1New.l0 k x0 (Go.bits .and .i64 (wrap64 ((wrap64 ((wrap64 (x3 * 139)) + (wrap64 (rd x0 x4)))) + 13)) 1073741823) (wrap64 (x4 + 1))) else (none)) else (some (x0, 0, x3))
def spec_l1New.f (k : Nat) (l0 : List Int) : Option (List Int × Int × Int) := spec_l1New.l0 k l0 (wrap64 (57731 + (l0.length : Int))) 0
set_option maxHeartbeats 8000000 in
set_option maxRecDepth 100000 in
theorem spec_l1New.calls (k : Nat) (A0 : Option Addr) (c0 : Nat) (l0 : List Int) (r1 : List Int) (r2 : Int) (r3 : Int) (w0 w : World) (hB : Below w0.heap.size w0 w) (hr0 : Kd.C (Kd.int .u8) w0 A0 l0.length l0) (hc0 : l0.length ≤ c0) (h : spec_l1New.f k l0 = some (r1, r2, r3)) :
    Calls Try.prog 41 #[.slice A0 l0.length c0] w fun e w' => ∃ g_ : Nat, e = .returned (.pointer (some ⟨g_, 0, none⟩)) ∧ IsS84 w0 w' g_ r1 r2 r3 ∧ Below w0.heap.size w0 w' ∧ Below w.heap.size w w' := by
  have hu84 := Try.underlying84
  have HR0 := Aside0.mk hr0
  have HC0 := Aside0.mk hc0
  clear hr0 hc0
  have HBW := Aside0.mk (Below.refl w.heap.size w)
  have HW0 := Aside0.mk hB.size
  have HB := Aside0.mk hB
  clear hB
  have H : (spec_l1New.l0 k l0 (wrap64 (57731 + (l0.length : Int))) 0) = some (r1, r2, r3) := h
  clear h
  have H' := Aside0.mk H
  clear H
  go_enter Try.func41, Try.ntmps41
  go_wp2
  go_loopg [3, 4] k (fun kq v3 v4 w' => ∃ (x3_1 : Int) (x4_1 : Int), v3 = .int .i64 x3_1 ∧ v4 = .int .i64 x4_1 ∧ Aside0 (spec_l1New.l0 kq l0 x3_1 x4_1 = some (r1, r2, r3)) ∧ Aside0 (kq ≤ k) ∧ Aside0 (Below w0.heap.size w0 w') ∧ Aside0 (Below w.heap.size w w'))
  case atStart => exact ⟨(wrap64 (57731 + (l0.length : Int))), (0), (by first | rfl | (simp; done) | (simp [*]; done)), (by first | rfl | (simp; done) | (simp [*]; done)), H', ⟨Nat.le_refl _⟩, ⟨by repeat (first | (with_reducible first | exact HB.out | apply below_alloc | apply pw_below_drewN | apply below_drew1) | exact HB.out)⟩, ⟨by repeat (first | (with_reducible first | exact HBW.out | apply below_alloc | apply pw_below_drewN | apply below_drew1) | exact HBW.out)⟩⟩
  case round =>
    clear H'
    obtain ⟨x3_1, x4_1, rfl, rfl, HA, HK1, HB, HBW⟩ := hrel
    cases gk with
    | zero => exact absurd HA.out (by simp [spec_l1New.l0])
    | succ k1 =>
      have H := HA.out
      clear HA
      simp only [spec_l1New.l0] at H
      by_cases c2 : x4_1 < (l0.length : Int)
      · rw [if_pos c2] at H
        have c2b0 : decide (x4_1 < (l0.length : Int)) = true := decide_eq_true c2
        clear c2
        by_cases c3 : 0 ≤ x4_1
        · rw [if_pos c3] at H
          have c3b0 : decide (0 ≤ x4_1) = true := decide_eq_true c3
          clear c3
          have H' := Aside0.mk H
          clear H
          have p138 : 0 ≤ (x4_1 : Int) := of_decide_eq_true (by first | (with_reducible assumption) | assumption)
          have q138 : x4_1 < (l0.length : Int) := of_decide_eq_true (by first | (with_reducible assumption) | assumption)
          obtain ⟨ad138, e138, hx138_0⟩ := Kd.at_int HR0.out x4_1 p138 q138
          cases e138
          replace hx138_0 := pw_cell_below HB.out hx138_0
          replace p138 := eq_true p138
          replace q138 := eq_true q138
          go_wp2
          go_roundg k1
          case measure => have := HK1.out; omega
          case rel => exact ⟨(Go.bits .and .i64 (wrap64 ((wrap64 ((wrap64 (x3_1 * 139)) + (wrap64 (rd l0 x4_1)))) + 13)) 1073741823), (wrap64 (x4_1 + 1)), (by first | rfl | (simp; done) | (simp [*]; done)), (by first | rfl | (simp; done) | (simp [*]; done)), H', ⟨by have := HK1.out; omega⟩, ⟨by repeat (first | (with_reducible first | exact HB.out | apply below_alloc | apply pw_below_drewN | apply below_drew1) | exact HB.out)⟩, ⟨by repeat (first | (with_reducible first | exact HBW.out | apply below_alloc | apply pw_below_drewN | apply below_drew1) | exact HBW.out)⟩⟩
        · rw [if_neg c3] at H
          exact absurd H (by simp)
      · rw [if_neg c2] at H
        have c2b0 : decide (x4_1 < (l0.length : Int)) = false := decide_eq_false c2
        clear c2
        simp only [Option.some.injEq, Prod.mk.injEq] at H
        obtain ⟨rfl, rfl, rfl⟩ := H
        go_wp2_with (first | ((with_reducible refine gate_dst (N := 27) rfl ?_); refine box_event ?hg (N := 27) ?hd (cs := #[.slice A0 l0.length c0, .int .i64 0, .int .i64 x3_1]) (t := 84) ?hr ?_; (case hd => rfl); (case hg => rfl); (case hr => first | (go_simp; done) | (go_simp; rfl)); intro gb139 hg w4 hbox hb; have n0_ := Aside0.mk (below_step HBW.out hb); have n1_ := Aside0.mk (below_step (by repeat (first | (with_reducible first | exact HB.out | apply below_alloc | apply pw_below_drewN | apply below_drew1) | exact HB.out)) hb); have n2_ := Aside0.mk (hbox); have n3_ := Aside0.mk ((by rw [hg]; exact (below_size (by repeat (first | (with_reducible first | exact HBW.out | apply below_alloc | apply pw_below_drewN | apply below_drew1) | exact HBW.out))) : w.heap.size ≤ gb139)); have n4_ := Aside0.mk ((Nat.le_trans HW0.out (by rw [hg]; exact (below_size (by repeat (first | (with_reducible first | exact HBW.out | apply below_alloc | apply pw_below_drewN | apply below_drew1) | exact HBW.out))) : w.heap.size ≤ gb139) : w0.heap.size ≤ gb139)); clear HBW; clear HB; have HBW := n0_; have HB := n1_; have BK139 := n2_; have GW139 := n3_; have GE139 := n4_; clear n0_ n1_ n2_ n3_ n4_; clear hb hbox hg))
        go_ret
        exact ⟨_, rfl, (show IsS84 w0 _ gb139 l0 0 x3_1 from ⟨_, _, by (with_reducible repeat (first | refine blk_drewN ?_ _ | refine blk_drew ?_ | refine blk_alloc ?_ _)); exact BK139.out, GE139.out, HR0.out⟩), by repeat (first | (with_reducible first | exact HB.out | apply below_alloc | apply pw_below_drewN | apply below_drew1 | refine below_set ?_ GE139.out) | exact HB.out), by repeat (first | (with_reducible first | exact HBW.out | apply below_alloc | apply pw_below_drewN | apply below_drew1 | refine below_set ?_ GW139.out) | exact HBW.out)⟩
end Go.Proofs.Ytnjmhlhlmokjnaa.G
namespace Go.Proofs.Ytnjmhlhlmokjnaa.G
open Go.RowKit Go.Proofs.YtnjmhlhlmokjnaaW.PrintWords Go.Proofs.YtnjmhlhlmokjnaaW.PrintLast Go.Proofs.YtnjmhlhlmokjnaaW.PrintMore
attribute [local go_sem] max2_int min2_int max_two min_two max_three min_three max_four min_four
set_option linter.unusedVariables false
set_option linter.unusedSimpArgs false
def spec_l1Byte.f (s0_0 : List Int) (s0_1 : Int) (s0_2 : Int) : Option (Int × Int × Int) := if s0_1 < (s0_0.length : Int) then (if 0 ≤ s0_1 then (some (Go.bits .and .i64 (wrap64 ((Go.bits .and .i64 (Go.bits .xor .i64 ((wrap64 ((wrap64 (s0_2 * 6364136223846793005)) + 1442695040888963407)) / 8589934592) ((wrap64 ((wrap64 (s0_2 * 6364136223846793005)) + 1442695040888963407)) / 35184372088832)) 255) + (wrap64 (rd s0_0 s0_1)))) 255, wrap64 (s0_1 + 1), wrap64 ((wrap64 (s0_2 * 6364136223846793005)) + 1442695040888963407))) else (none)) else (some (Go.bits .and .i64 (Go.bits .xor .i64 ((wrap64 ((wrap64 (s0_2 * 6364136223846793005)) + 1442695040888963407)) / 8589934592) ((wrap64 ((wrap64 (s0_2 * 6364136223846793005)) + 1442695040888963407)) / 35184372088832)) 255, s0_1, wrap64 ((wrap64 (s0_2 * 6364136223846793005)) + 1442695040888963407)))
set_option maxHeartbeats 8000000 in
set_option maxRecDepth 100000 in
theorem spec_l1Byte.calls (g : Nat) (s0_0 : List Int) (s0_1 : Int) (s0_2 : Int) (r1 : Int) (r2 : Int) (r3 : Int) (w0 w : World) (hI : IsS84 w0 w g s0_0 s0_1 s0_2) (hB : Below w0.heap.size w0 w) (h : spec_l1Byte.f s0_0 s0_1 s0_2 = some (r1, r2, r3)) :
    Calls Try.prog 76 #[.pointer (some ⟨g, 0, none⟩)] w fun e w' => e = .returned (.int .i64 r1) ∧ IsS84 w0 w' g s0_0 r2 r3 ∧ Below w0.heap.size w0 w' ∧ KeepBut w w' g none := by
  have HI0 := Aside0.mk hI
  have HK := Aside0.mk (KeepBut.refl w g none)
  have HL := Aside0.mk hB.size
  clear hI
  have HW0 := Aside0.mk hB.size
  have HB := Aside0.mk hB
  clear hB
  have H : (if s0_1 < (s0_0.length : Int) then (if 0 ≤ s0_1 then (some (Go.bits .and .i64 (wrap64 ((Go.bits .and .i64 (Go.bits .xor .i64 ((wrap64 ((wrap64 (s0_2 * 6364136223846793005)) + 1442695040888963407)) / 8589934592) ((wrap64 ((wrap64 (s0_2 * 6364136223846793005)) + 1442695040888963407)) / 35184372088832)) 255) + (wrap64 (rd s0_0 s0_1)))) 255, wrap64 (s0_1 + 1), wrap64 ((wrap64 (s0_2 * 6364136223846793005)) + 1442695040888963407))) else (none)) else (some (Go.bits .and .i64 (Go.bits .xor .i64 ((wrap64 ((wrap64 (s0_2 * 6364136223846793005)) + 1442695040888963407)) / 8589934592) ((wrap64 ((wrap64 (s0_2 * 6364136223846793005)) + 1442695040888963407)) / 35184372088832)) 255, s0_1, wrap64 ((wrap64 (s0_2 * 6364136223846793005)) + 1442695040888963407)))) = some (r1, r2, r3) := h
  clear h
  by_cases c2 : s0_1 < (s0_0.length : Int)
  · rw [if_pos c2] at H
    have c2b0 : decide (s0_1 < (s0_0.length : Int)) = true := decide_eq_true c2
    clear c2
    by_cases c3 : 0 ≤ s0_1
    · rw [if_pos c3] at H
      have c3b0 : decide (0 ≤ s0_1) = true := decide_eq_true c3
      clear c3
      simp only [Option.some.injEq, Prod.mk.injEq] at H
      obtain ⟨rfl, rfl, rfl⟩ := H
      obtain ⟨ASz4_0, cSz4_0, HGz4, hgz4, HSz4_0⟩ := HI0.out
      have hcz4_0 := cellS84_0 HGz4
      have hcz4_1 := cellS84_1 HGz4
      have hcz4_2 := cellS84_2 HGz4
      have hfz4_1 := blk_frozen HGz4 1
      have hfz4_2 := blk_frozen HGz4 2
      clear HGz4 hgz4
      have p140 : 0 ≤ (s0_1 : Int) := of_decide_eq_true (by first | (with_reducible assumption) | assumption)
      have q140 : s0_1 < (s0_0.length : Int) := of_decide_eq_true (by first | (with_reducible assumption) | assumption)
      obtain ⟨ad140, e140, hx140_0⟩ := Kd.at_int HSz4_0 s0_1 p140 q140
      cases e140
      have hn140_0 : ad140.block ≠ g := Nat.ne_of_lt (Nat.lt_of_lt_of_le (by have := World.block_lt_of_cell? _ _ hx140_0; first | rwa [add_block] at this | exact this) (IsS84.ge HI0.out))
      replace hx140_0 := pw_cell_below HB.out hx140_0
      replace hx140_0 := (cell_far (p := ⟨g, 2, none⟩) (by first | (rw [add_block]; exact hn140_0) | (show (Addr.add _ _).block ≠ _; rw [add_block]; exact hn140_0) | exact hn140_0) (.int .i64 (wrap64 ((wrap64 (s0_2 * 6364136223846793005)) + 1442695040888963407)))).trans hx140_0
      (try have hy140_0 := fun (n_ : Nat) => (show (((w.drewN n_).setCell ⟨g, 2, none⟩ (.int .i64 (wrap64 ((wrap64 (s0_2 * 6364136223846793005)) + 1442695040888963407))))).cell? _ = some _ from hx140_0))
      clear hn140_0
      replace p140 := eq_true p140
      replace q140 := eq_true q140
      go_enter Try.func76, Try.ntmps76
      go_wp2
      repeat (go_quiet (fail); try go_wp2)
      go_ret
      exact ⟨by first | rfl | (simp [errW_none, errW_some] <;> rfl) | (simp [*, errW_none, errW_some] <;> rfl), by repeat (first | (with_reducible first | exact HI0.out | apply IsS84.alloc | apply IsS84.drewN | apply IsS84.drew | apply IsS84.set_1 | apply IsS84.set_2) | exact HI0.out), by repeat (first | (with_reducible first | exact HB.out | apply below_alloc | apply pw_below_drewN | apply below_drew1 | refine below_set ?_ (IsS84.ge HI0.out)) | exact HB.out), by repeat (first | (with_reducible first | exact HK.out | apply KeepBut.set_ | apply keep_drewN | apply keep_drew | apply keep_alloc) | exact HK.out)⟩
    · rw [if_neg c3] at H
      exact absurd H (by simp)
  · rw [if_neg c2] at H
    have c2b0 : decide (s0_1 < (s0_0.length : Int)) = false := decide_eq_false c2
    clear c2
    simp only [Option.some.injEq, Prod.mk.injEq] at H
    obtain ⟨rfl, rfl, rfl⟩ := H
    obtain ⟨ASz5_0, cSz5_0, HGz5, hgz5, HSz5_0⟩ := HI0.out
    have hcz5_0 := cellS84_0 HGz5
    have hcz5_1 := cellS84_1 HGz5
    have hcz5_2 := cellS84_2 HGz5
    have hfz5_1 := blk_frozen HGz5 1
    have hfz5_2 := blk_frozen HGz5 2
    clear HGz5 hgz5
    go_enter Try.func76, Try.ntmps76
    go_wp2
    repeat (go_quiet (fail); try go_wp2)
    go_ret
    exact ⟨by first | rfl | (simp [errW_none, errW_some] <;> rfl) | (simp [*, errW_none, errW_some] <;> rfl), by repeat (first | (with_reducible first | exact HI0.out | apply IsS84.alloc | apply IsS84.drewN | apply IsS84.drew | apply IsS84.set_1 | apply IsS84.set_2) | exact HI0.out), by repeat (first | (with_reducible first | exact HB.out | apply below_alloc | apply pw_below_drewN | apply below_drew1 | refine below_set ?_ (IsS84.ge HI0.out)) | exact HB.out), by repeat (first | (with_reducible first | exact HK.out | apply KeepBut.set_ | apply keep_drewN | apply keep_drew | apply keep_alloc) | exact HK.out)⟩
end Go.Proofs.Ytnjmhlhlmokjnaa.G
namespace Go.Proofs.Ytnjmhlhlmokjnaa.G
open Go.RowKit Go.Proofs.YtnjmhlhlmokjnaaW.PrintWords Go.Proofs.YtnjmhlhlmokjnaaW.PrintLast Go.Proofs.YtnjmhlhlmokjnaaW.PrintMore
attribute [local go_sem] max2_int min2_int max_two min_two max_three min_three max_four min_four
set_option linter.unusedVariables false
set_option linter.unusedSimpArgs false
def spec_l1Below.f (s0_0 : List Int) (s0_1 : Int) (s0_2 : Int) (a1 : Int) : Option (Int × Int × Int) := if a1 ≤ 0 then (some (0, s0_1, s0_2)) else (if a1 ≤ 256 then ((spec_l1Byte.f s0_0 s0_1 s0_2).bind fun bt141 => (if a1 = 0 then (none) else (some (Int.tmod bt141.1 a1, bt141.2.1, bt141.2.2)))) else ((spec_l1Byte.f s0_0 s0_1 s0_2).bind fun bt144 => ((spec_l1Byte.f s0_0 bt144.2.1 bt144.2.2).bind fun bt147 => ((spec_l1Byte.f s0_0 bt147.2.1 bt147.2.2).bind fun bt150 => ((spec_l1Byte.f s0_0 bt150.2.1 bt150.2.2).bind fun bt153 => (if a1 = 0 then (none) else (some (Int.tmod (wrap64 ((wrap64 ((wrap64 ((wrap64 (bt144.1 * 16777216)) + (wrap64 (bt147.1 * 65536)))) + (wrap64 (bt150.1 * 256)))) + bt153.1)) a1, bt153.2.1, bt153.2.2))))))))
set_option maxHeartbeats 8000000 in
set_option maxRecDepth 100000 in
theorem spec_l1Below.calls (g : Nat) (s0_0 : List Int) (s0_1 : Int) (s0_2 : Int) (a1 : Int) (r1 : Int) (r2 : Int) (r3 : Int) (w0 w : World) (hI : IsS84 w0 w g s0_0 s0_1 s0_2) (hB : Below w0.heap.size w0 w) (h : spec_l1Below.f s0_0 s0_1 s0_2 a1 = some (r1, r2, r3)) :
    Calls Try.prog 61 #[.pointer (some ⟨g, 0, none⟩), .int .i64 a1] w fun e w' => e = .returned (.int .i64 r1) ∧ IsS84 w0 w' g s0_0 r2 r3 ∧ Below w0.heap.size w0 w' ∧ KeepBut w w' g none := by
  have HI0 := Aside0.mk hI
  have HK := Aside0.mk (KeepBut.refl w g none)
  have HL := Aside0.mk hB.size
  clear hI
  have HW0 := Aside0.mk hB.size
  have HB := Aside0.mk hB
  clear hB
  have H : (if a1 ≤ 0 then (some (0, s0_1, s0_2)) else (if a1 ≤ 256 then ((spec_l1Byte.f s0_0 s0_1 s0_2).bind fun bt141 => (if a1 = 0 then (none) else (some (Int.tmod bt141.1 a1, bt141.2.1, bt141.2.2)))) else ((spec_l1Byte.f s0_0 s0_1 s0_2).bind fun bt144 => ((spec_l1Byte.f s0_0 bt144.2.1 bt144.2.2).bind fun bt147 => ((spec_l1Byte.f s0_0 bt147.2.1 bt147.2.2).bind fun bt150 => ((spec_l1Byte.f s0_0 bt150.2.1 bt150.2.2).bind fun bt153 => (if a1 = 0 then (none) else (some (Int.tmod (wrap64 ((wrap64 ((wrap64 ((wrap64 (bt144.1 * 16777216)) + (wrap64 (bt147.1 * 65536)))) + (wrap64 (bt150.1 * 256)))) + bt153.1)) a1, bt153.2.1, bt153.2.2))))))))) = some (r1, r2, r3) := h
  clear h
  by_cases c3 : a1 ≤ 0
  · rw [if_pos c3] at H
    have c3b0 : decide (a1 ≤ 0) = true := decide_eq_true c3
    clear c3
    simp only [Option.some.injEq, Prod.mk.injEq] at H
    obtain ⟨rfl, rfl, rfl⟩ := H
    go_enter Try.func61, Try.ntmps61
    go_wp2
    go_ret
    exact ⟨by first | rfl | (simp [errW_none, errW_some] <;> rfl) | (simp [*, errW_none, errW_some] <;> rfl), by repeat (first | (with_reducible first | exact HI0.out | apply IsS84.alloc | apply IsS84.drewN | apply IsS84.drew | apply IsS84.set_1 | apply IsS84.set_2) | exact HI0.out), by repeat (first | (with_reducible first | exact HB.out | apply below_alloc | apply pw_below_drewN | apply below_drew1 | refine below_set ?_ (IsS84.ge HI0.out)) | exact HB.out), by repeat (first | (with_reducible first | exact HK.out | apply KeepBut.set_ | apply keep_drewN | apply keep_drew | apply keep_alloc) | exact HK.out)⟩
  · rw [if_neg c3] at H
    have c3b0 : decide (a1 ≤ 0) = false := decide_eq_false c3
    clear c3
    by_cases c4 : a1 ≤ 256
    · rw [if_pos c4] at H
      have c4b0 : decide (a1 ≤ 256) = true := decide_eq_true c4
      clear c4
      replace H := Option.bind_eq_some_iff.mp H
      obtain ⟨⟨t141, t142, t143⟩, A50, H⟩ := H
      replace H : (if a1 = 0 then (none) else (some (Int.tmod t141 a1, t142, t143))) = some (r1, r2, r3) := H
      have A5 := Aside0.mk A50
      clear A50
      by_cases c6 : a1 = 0
      · rw [if_pos c6] at H
        exact absurd H (by simp)
      · rw [if_neg c6] at H
        have c6b0 : (a1 == 0) = false := beq_eq_false_iff_ne.mpr c6
        have c6b1 : (a1 != 0) = true := bne_iff_ne.mpr c6
        simp only [Option.some.injEq, Prod.mk.injEq] at H
        obtain ⟨rfl, rfl, rfl⟩ := H
        go_enter Try.func61, Try.ntmps61
        go_wp2_with (first | ((with_reducible refine gate_callee (f := 76) rfl ?_); refine goesL_ (some 14) rfl rfl Try.func76 (by kernel_rfl) rfl #[.pointer (some ⟨g, 0, none⟩)] rfl (by (try simp only [List.map_toArray, List.map_cons, List.map_nil]); first | done | rfl | (simp only [List.length_drop, List.length_take]; rfl)) ?_; (with_reducible refine (spec_l1Byte.calls g s0_0 s0_1 s0_2 t141 t142 t143 w0 _ ?side1 ?side2 A5.out).mono ?_); (case side1 => repeat (first | (with_reducible first | exact HI0.out | apply IsS84.alloc | apply IsS84.drewN | apply IsS84.drew | apply IsS84.set_1 | apply IsS84.set_2) | exact HI0.out)); (case side2 => repeat (first | (with_reducible first | exact HB.out | apply below_alloc | apply pw_below_drewN | apply below_drew1 | refine below_set ?_ (IsS84.ge HI0.out)) | exact HB.out)); rintro e w7 ⟨rfl, hi, hb, hk⟩; refine ⟨_, rfl, ?_⟩; have n0_ := Aside0.mk (KeepBut.trans (by repeat (first | (with_reducible first | exact HK.out | apply KeepBut.set_ | apply keep_drewN | apply keep_drew | apply keep_alloc) | exact HK.out)) hk (.inl rfl)); have n1_ := Aside0.mk (hb); have n2_ := Aside0.mk (hi); clear HK; clear HB; clear HI0; have HK := n0_; have HB := n1_; have HI0 := n2_; clear n0_ n1_ n2_; (try clear hb); (try clear hb2); (try clear hk); (try clear hi)))
        go_ret
        exact ⟨by first | rfl | (simp [errW_none, errW_some] <;> rfl) | (simp [*, errW_none, errW_some] <;> rfl), by repeat (first | (with_reducible first | exact HI0.out | apply IsS84.alloc | apply IsS84.drewN | apply IsS84.drew | apply IsS84.set_1 | apply IsS84.set_2) | exact HI0.out), by repeat (first | (with_reducible first | exact HB.out | apply below_alloc | apply pw_below_drewN | apply below_drew1 | refine below_set ?_ (IsS84.ge HI0.out)) | exact HB.out), by repeat (first | (with_reducible first | exact HK.out | apply KeepBut.set_ | apply keep_drewN | apply keep_drew | apply keep_alloc) | exact HK.out)⟩
    · rw [if_neg c4] at H
      have c4b0 : decide (a1 ≤ 256) = false := decide_eq_false c4
      clear c4
      replace H := Option.bind_eq_some_iff.mp H
      obtain ⟨⟨t144, t145, t146⟩, A80, H⟩ := H
      replace H : ((spec_l1Byte.f s0_0 t145 t146).bind fun bt147 => ((spec_l1Byte.f s0_0 bt147.2.1 bt147.2.2).bind fun bt150 => ((spec_l1Byte.f s0_0 bt150.2.1 bt150.2.2).bind fun bt153 => (if a1 = 0 then (none) else (some (Int.tmod (wrap64 ((wrap64 ((wrap64 ((wrap64 (t144 * 16777216)) + (wrap64 (bt147.1 * 65536)))) + (wrap64 (bt150.1 * 256)))) + bt153.1)) a1, bt153.2.1, bt153.2.2)))))) = some (r1, r2, r3) := H
      have A8 := Aside0.mk A80
      clear A80
      replace H := Option.bind_eq_some_iff.mp H
      obtain ⟨⟨t147, t148, t149⟩, A90, H⟩ := H
      replace H : ((spec_l1Byte.f s0_0 t148 t149).bind fun bt150 => ((spec_l1Byte.f s0_0 bt150.2.1 bt150.2.2).bind fun bt153 => (if a1 = 0 then (none) else (some (Int.tmod (wrap64 ((wrap64 ((wrap64 ((wrap64 (t144 * 16777216)) + (wrap64 (t147 * 65536)))) + (wrap64 (bt150.1 * 256)))) + bt153.1)) a1, bt153.2.1, bt153.2.2))))) = some (r1, r2, r3) := H
      have A9 := Aside0.mk A90
      clear A90
      replace H := Option.bind_eq_some_iff.mp H
      obtain ⟨⟨t150, t151, t152⟩, A100, H⟩ := H
      replace H : ((spec_l1Byte.f s0_0 t151 t152).bind fun bt153 => (if a1 = 0 then (none) else (some (Int.tmod (wrap64 ((wrap64 ((wrap64 ((wrap64 (t144 * 16777216)) + (wrap64 (t147 * 65536)))) + (wrap64 (t150 * 256)))) + bt153.1)) a1, bt153.2.1, bt153.2.2)))) = some (r1, r2, r3) := H
      have A10 := Aside0.mk A100
      clear A100
      replace H := Option.bind_eq_some_iff.mp H
      obtain ⟨⟨t153, t154, t155⟩, A110, H⟩ := H
      replace H : (if a1 = 0 then (none) else (some (Int.tmod (wrap64 ((wrap64 ((wrap64 ((wrap64 (t144 * 16777216)) + (wrap64 (t147 * 65536)))) + (wrap64 (t150 * 256)))) + t153)) a1, t154, t155))) = some (r1, r2, r3) := H
      have A11 := Aside0.mk A110
      clear A110
      by_cases c12 : a1 = 0
      · rw [if_pos c12] at H
        exact absurd H (by simp)
      · rw [if_neg c12] at H
        have c12b0 : (a1 == 0) = false := beq_eq_false_iff_ne.mpr c12
        have c12b1 : (a1 != 0) = true := bne_iff_ne.mpr c12
        simp only [Option.some.injEq, Prod.mk.injEq] at H
        obtain ⟨rfl, rfl, rfl⟩ := H
        go_enter Try.func61, Try.ntmps61
        go_wp2_with (first | ((with_reducible refine gate_callee (f := 76) rfl ?_); refine goesL_ (some 18) rfl rfl Try.func76 (by kernel_rfl) rfl #[.pointer (some ⟨g, 0, none⟩)] rfl (by (try simp only [List.map_toArray, List.map_cons, List.map_nil]); first | done | rfl | (simp only [List.length_drop, List.length_take]; rfl)) ?_; (with_reducible refine (spec_l1Byte.calls g s0_0 s0_1 s0_2 t144 t145 t146 w0 _ ?side1 ?side2 A8.out).mono ?_); (case side1 => repeat (first | (with_reducible first | exact HI0.out | apply IsS84.alloc | apply IsS84.drewN | apply IsS84.drew | apply IsS84.set_1 | apply IsS84.set_2) | exact HI0.out)); (case side2 => repeat (first | (with_reducible first | exact HB.out | apply below_alloc | apply pw_below_drewN | apply below_drew1 | refine below_set ?_ (IsS84.ge HI0.out)) | exact HB.out)); rintro e w13 ⟨rfl, hi, hb, hk⟩; refine ⟨_, rfl, ?_⟩; have n0_ := Aside0.mk (KeepBut.trans (by repeat (first | (with_reducible first | exact HK.out | apply KeepBut.set_ | apply keep_drewN | apply keep_drew | apply keep_alloc) | exact HK.out)) hk (.inl rfl)); have n1_ := Aside0.mk (hb); have n2_ := Aside0.mk (hi); clear HK; clear HB; clear HI0; have HK := n0_; have HB := n1_; have HI0 := n2_; clear n0_ n1_ n2_; (try clear hb); (try clear hb2); (try clear hk); (try clear hi)) | ((with_reducible refine gate_callee (f := 76) rfl ?_); refine goesL_ (some 20) rfl rfl Try.func76 (by kernel_rfl) rfl #[.pointer (some ⟨g, 0, none⟩)] rfl (by (try simp only [List.map_toArray, List.map_cons, List.map_nil]); first | done | rfl | (simp only [List.length_drop, List.length_take]; rfl)) ?_; (with_reducible refine (spec_l1Byte.calls g s0_0 t145 t146 t147 t148 t149 w0 _ ?side1 ?side2 A9.out).mono ?_); (case side1 => repeat (first | (with_reducible first | exact HI0.out | apply IsS84.alloc | apply IsS84.drewN | apply IsS84.drew | apply IsS84.set_1 | apply IsS84.set_2) | exact HI0.out)); (case side2 => repeat (first | (with_reducible first | exact HB.out | apply below_alloc | apply pw_below_drewN | apply below_drew1 | refine below_set ?_ (IsS84.ge HI0.out)) | exact HB.out)); rintro e w14 ⟨rfl, hi, hb, hk⟩; refine ⟨_, rfl, ?_⟩; have n0_ := Aside0.mk (KeepBut.trans (by repeat (first | (with_reducible first | exact HK.out | apply KeepBut.set_ | apply keep_drewN | apply keep_drew | apply keep_alloc) | exact HK.out)) hk (.inl rfl)); have n1_ := Aside0.mk (hb); have n2_ := Aside0.mk (hi); clear HK; clear HB; clear HI0; have HK := n0_; have HB := n1_; have HI0 := n2_; clear n0_ n1_ n2_; (try clear hb); (try clear hb2); (try clear hk); (try clear hi)) | ((with_reducible refine gate_callee (f := 76) rfl ?_); refine goesL_ (some 22) rfl rfl Try.func76 (by kernel_rfl) rfl #[.pointer (some ⟨g, 0, none⟩)] rfl (by (try simp only [List.map_toArray, List.map_cons, List.map_nil]); first | done | rfl | (simp only [List.length_drop, List.length_take]; rfl)) ?_; (with_reducible refine (spec_l1Byte.calls g s0_0 t148 t149 t150 t151 t152 w0 _ ?side1 ?side2 A10.out).mono ?_); (case side1 => repeat (first | (with_reducible first | exact HI0.out | apply IsS84.alloc | apply IsS84.drewN | apply IsS84.drew | apply IsS84.set_1 | apply IsS84.set_2) | exact HI0.out)); (case side2 => repeat (first | (with_reducible first | exact HB.out | apply below_alloc | apply pw_below_drewN | apply below_drew1 | refine below_set ?_ (IsS84.ge HI0.out)) | exact HB.out)); rintro e w15 ⟨rfl, hi, hb, hk⟩; refine ⟨_, rfl, ?_⟩; have n0_ := Aside0.mk (KeepBut.trans (by repeat (first | (with_reducible first | exact HK.out | apply KeepBut.set_ | apply keep_drewN | apply keep_drew | apply keep_alloc) | exact HK.out)) hk (.inl rfl)); have n1_ := Aside0.mk (hb); have n2_ := Aside0.mk (hi); clear HK; clear HB; clear HI0; have HK := n0_; have HB := n1_; have HI0 := n2_; clear n0_ n1_ n2_; (try clear hb); (try clear hb2); (try clear hk); (try clear hi)) | ((with_reducible refine gate_callee (f := 76) rfl ?_); refine goesL_ (some 24) rfl rfl Try.func76 (by kernel_rfl) rfl #[.pointer (some ⟨g, 0, none⟩)] rfl (by (try simp only [List.map_toArray, List.map_cons, List.map_nil]); first | done | rfl | (simp only [List.length_drop, List.length_take]; rfl)) ?_; (with_reducible refine (spec_l1Byte.calls g s0_0 t151 t152 t153 t154 t155 w0 _ ?side1 ?side2 A11.out).mono ?_); (case side1 => repeat (first | (with_reducible first | exact HI0.out | apply IsS84.alloc | apply IsS84.drewN | apply IsS84.drew | apply IsS84.set_1 | apply IsS84.set_2) | exact HI0.out)); (case side2 => repeat (first | (with_reducible first | exact HB.out | apply below_alloc | apply pw_below_drewN | apply below_drew1 | refine below_set ?_ (IsS84.ge HI0.out)) | exact HB.out)); rintro e w16 ⟨rfl, hi, hb, hk⟩; refine ⟨_, rfl, ?_⟩; have n0_ := Aside0.mk (KeepBut.trans (by repeat (first | (with_reducible first | exact HK.out | apply KeepBut.set_ | apply keep_drewN | apply keep_drew | apply keep_alloc) | exact HK.out)) hk (.inl rfl)); have n1_ := Aside0.mk (hb); have n2_ := Aside0.mk (hi); clear HK; clear HB; clear HI0; have HK := n0_; have HB := n1_; have HI0 := n2_; clear n0_ n1_ n2_; (try clear hb); (try clear hb2); (try clear hk); (try clear hi)))
        go_ret
        exact ⟨by first | rfl | (simp [errW_none, errW_some] <;> rfl) | (simp [*, errW_none, errW_some] <;> rfl), by repeat (first | (with_reducible first | exact HI0.out | apply IsS84.alloc | apply IsS84.drewN | apply IsS84.drew | apply IsS84.set_1 | apply IsS84.set_2) | exact HI0.out), by repeat (first | (with_reducible first | exact HB.out | apply below_alloc | apply pw_below_drewN | apply below_drew1 | refine below_set ?_ (IsS84.ge HI0.out)) | exact HB.out), by repeat (first | (with_reducible first | exact HK.out | apply KeepBut.set_ | apply keep_drewN | apply keep_drew | apply keep_alloc) | exact HK.out)⟩
end Go.Proofs.Ytnjmhlhlmokjnaa.G
namespace Go.Proofs.Ytnjmhlhlmokjnaa.G
open Go.RowKit Go.Proofs.YtnjmhlhlmokjnaaW.PrintWords Go.Proofs.YtnjmhlhlmokjnaaW.PrintLast Go.Proofs.YtnjmhlhlmokjnaaW.PrintMore
attribute [local go_sem] max2_int min2_int max_two min_two max_three min_three max_four min_four
set_option linter.unusedVariables false
set_option linter.unusedSimpArgs false
def spec_l1Once.f (s0_0 : List Int) (s0_1 : Int) (s0_2 : Int) (a1 : Int) : Option (Bool × Int × Int) := (spec_l1Below.f s0_0 s0_1 s0_2 a1).bind fun bt156 => (some ((bt156.1 == 0), bt156.2.1, bt156.2.2))
set_option maxHeartbeats 8000000 in
set_option maxRecDepth 100000 in
theorem spec_l1Once.calls (g : Nat) (s0_0 : List Int) (s0_1 : Int) (s0_2 : Int) (a1 : Int) (r1 : Bool) (r2 : Int) (r3 : Int) (w0 w : World) (hI : IsS84 w0 w g s0_0 s0_1 s0_2) (hB : Below w0.heap.size w0 w) (h : spec_l1Once.f s0_0 s0_1 s0_2 a1 = some (r1, r2, r3)) :
    Calls Try.prog 60 #[.pointer (some ⟨g, 0, none⟩), .int .i64 a1] w fun e w' => e = .returned (.bool r1) ∧ IsS84 w0 w' g s0_0 r2 r3 ∧ Below w0.heap.size w0 w' ∧ KeepBut w w' g none := by
  have HI0 := Aside0.mk hI
  have HK := Aside0.mk (KeepBut.refl w g none)
  have HL := Aside0.mk hB.size
  clear hI
  have HW0 := Aside0.mk hB.size
  have HB := Aside0.mk hB
  clear hB
  have H : ((spec_l1Below.f s0_0 s0_1 s0_2 a1).bind fun bt156 => (some ((bt156.1 == 0), bt156.2.1, bt156.2.2))) = some (r1, r2, r3) := h
  clear h
  replace H := Option.bind_eq_some_iff.mp H
  obtain ⟨⟨t156, t157, t158⟩, A30, H⟩ := H
  replace H : (some ((t156 == 0), t157, t158)) = some (r1, r2, r3) := H
  have A3 := Aside0.mk A30
  clear A30
  simp only [Option.some.injEq, Prod.mk.injEq] at H
  obtain ⟨rfl, rfl, rfl⟩ := H
  go_enter Try.func60, Try.ntmps60
  go_wp2_with (first | ((with_reducible refine gate_callee (f := 61) rfl ?_); refine goesL_ (some 7) rfl rfl Try.func61 (by kernel_rfl) rfl #[.pointer (some ⟨g, 0, none⟩), .int .i64 a1] rfl (by (try simp only [List.map_toArray, List.map_cons, List.map_nil]); first | done | rfl | (simp only [List.length_drop, List.length_take]; rfl)) ?_; (with_reducible refine (spec_l1Below.calls g s0_0 s0_1 s0_2 a1 t156 t157 t158 w0 _ ?side1 ?side2 A3.out).mono ?_); (case side1 => repeat (first | (with_reducible first | exact HI0.out | apply IsS84.alloc | apply IsS84.drewN | apply IsS84.drew | apply IsS84.set_1 | apply IsS84.set_2) | exact HI0.out)); (case side2 => repeat (first | (with_reducible first | exact HB.out | apply below_alloc | apply pw_below_drewN | apply below_drew1 | refine below_set ?_ (IsS84.ge HI0.out)) | exact HB.out)); rintro e w4 ⟨rfl, hi, hb, hk⟩; refine ⟨_, rfl, ?_⟩; have n0_ := Aside0.mk (KeepBut.trans (by repeat (first | (with_reducible first | exact HK.out | apply KeepBut.set_ | apply keep_drewN | apply keep_drew | apply keep_alloc) | exact HK.out)) hk (.inl rfl)); have n1_ := Aside0.mk (hb); have n2_ := Aside0.mk (hi); clear HK; clear HB; clear HI0; have HK := n0_; have HB := n1_; have HI0 := n2_; clear n0_ n1_ n2_; (try clear hb); (try clear hb2); (try clear hk); (try clear hi)))
  go_ret
  exact ⟨by first | rfl | (simp [errW_none, errW_some] <;> rfl) | (simp [*, errW_none, errW_some] <;> rfl), by repeat (first | (with_reducible first | exact HI0.out | apply IsS84.alloc | apply IsS84.drewN | apply IsS84.drew | apply IsS84.set_1 | apply IsS84.set_2) | exact HI0.out), by repeat (first | (with_reducible first | exact HB.out | apply below_alloc | apply pw_below_drewN | apply below_drew1 | refine below_set ?_ (IsS84.ge HI0.out)) | exact HB.out), by repeat (first | (with_reducible first | exact HK.out | apply KeepBut.set_ | apply keep_drewN | apply keep_drew | apply keep_alloc) | exact HK.out)⟩
end Go.Proofs.Ytnjmhlhlmokjnaa.G
namespace Go.Proofs.Ytnjmhlhlmokjnaa.G
open Go.RowKit Go.Proofs.YtnjmhlhlmokjnaaW.PrintWords Go.Proofs.YtnjmhlhlmokjnaaW.PrintLast Go.Proofs.YtnjmhlhlmokjnaaW.PrintMore
attribute [local go_sem] max2_int min2_int max_two min_two max_three min_three max_four min_four
set_option linter.unusedVariables false
set_option linter.unusedSimpArgs false
def spec_l2Int.l0 : Nat → Int → ByteArray → Option (ByteArray)
  | 0, _, _ => none
  | k + 1, x0, x3 => if x0 > 9 then ((some (([(wrap64 (48 + (Int.tmod x0 10))) % 256] : List Int) : List Int)).bind fun y159 => (if (strOfNums y159).size + x3.size ≤ 9223372036854775807 then (spec_l2Int.l0 k (wrap64 (Int.tdiv x0 10)) ((strOfNums y159) ++ x3)) else (none))) else ((some (([(wrap64 (48 + x0)) % 256] : List Int) : List Int)).bind fun y162 => (if (strOfNums y162).size + x3.size ≤ 9223372036854775807 then (some ((strOfNums y162) ++ x3)) else (none)))
def spec_l2Int.f (k : Nat) (a0 : Int) : Option (ByteArray) := spec_l2Int.l0 k a0 (⟨#[]⟩ : ByteArray)
set_option maxHeartbeats 8000000 in
set_option maxRecDepth 100000 in
theorem spec_l2Int.calls (k : Nat) (a0 : Int) (r : ByteArray) (w : World) (h : spec_l2Int.f k a0 = some r) :
    Calls Try.prog 68 #[.int .i64 a0] w fun e w' => e = .returned (.string r) ∧ Below w.heap.size w w' := by
  have HB := Aside0.mk (Below.refl w.heap.size w)
  have H : (spec_l2Int.l0 k a0 (⟨#[]⟩ : ByteArray)) = some r := h
  clear h
  have H' := Aside0.mk H
  clear H
  go_enter Try.func68, Try.ntmps68
  go_wp2
  go_loopg [0, 3] k (fun kq v0 v3 w' => ∃ (x0_1 : Int) (x3_1 : ByteArray), v0 = .int .i64 x0_1 ∧ v3 = .string x3_1 ∧ Aside0 (spec_l2Int.l0 kq x0_1 x3_1 = some r) ∧ Aside0 (kq ≤ k) ∧ Aside0 (Below w.heap.size w w'))
  case atStart => exact ⟨(a0), ((⟨#[]⟩ : ByteArray)), (by first | rfl | (simp; done) | (simp [*]; done)), (by first | rfl | (simp; done) | (simp [*]; done)), H', ⟨Nat.le_refl _⟩, ⟨by repeat (first | (with_reducible first | exact HB.out | apply below_alloc | apply pw_below_drewN | apply below_drew1) | exact HB.out)⟩⟩
  case round =>
    clear H'
    obtain ⟨x0_1, x3_1, rfl, rfl, HA, HK1, HB⟩ := hrel
    cases gk with
    | zero => exact absurd HA.out (by simp [spec_l2Int.l0])
    | succ k1 =>
      have H := HA.out
      clear HA
      simp only [spec_l2Int.l0] at H
      by_cases c2 : x0_1 > 9
      · rw [if_pos c2] at H
        have c2b0 : decide (9 < x0_1) = true := decide_eq_true c2
        clear c2
        obtain ⟨y159, hy159⟩ : ∃ y_ : List Int, y_ = (([(wrap64 (48 + (Int.tmod x0_1 10))) % 256] : List Int)) := ⟨_, rfl⟩
        replace H : (if (strOfNums y159).size + x3_1.size ≤ 9223372036854775807 then (spec_l2Int.l0 k1 (wrap64 (Int.tdiv x0_1 10)) ((strOfNums y159) ++ x3_1)) else (none)) = some r := by first | (rw [hy159]; with_reducible exact H) | (have H2_ := (Option.bind_some _ _).symm.trans H; rw [hy159]; with_reducible exact H2_) | (have H2_ := (Option.bind_some _ _).symm.trans H; with_reducible exact H2_) | with_reducible exact H | (rw [hy159]; exact H) | exact H
        have Ny159 := Aside0.mk hy159
        clear hy159
        by_cases c3 : (strOfNums y159).size + x3_1.size ≤ 9223372036854775807
        · rw [if_pos c3] at H
          have c3b0 := eq_true c3
          have c3b1 : decide ((strOfNums y159).size + x3_1.size ≤ 9223372036854775807) = true := decide_eq_true c3
          try have c3b2 : (9223372036854775807 < (strOfNums y159).size + x3_1.size) = False := eq_false (Nat.not_lt.2 c3)
          have H' := Aside0.mk H
          clear H
          go_wp2_with (first | ((with_reducible refine gate_dst (N := 10) rfl ?_); refine Kd.R_lit (Kd.int .u8) _ 5 ?hg (N := 10) ?hd (xs := ([(wrap64 (48 + (Int.tmod x0_1 10))) % 256] : List Int)) (inner := [.int .u8 ((wrap64 (48 + (Int.tmod x0_1 10))) % 256)]) (ok := fun _ => True) (okp := fun _ => True) ?hr ?hp (fun _ hk => hk) trivial (Below.refl _ _) (Nat.le_refl _) (by simp) ?_; (case hd => rfl); (case hg => rfl); (case hr => first | (go_simp; done) | (go_simp; rfl)); (case hp => exact (Reps.one (show Kd.M (Kd.int .u8) _ _ _ ((wrap64 (48 + (Int.tmod x0_1 10))) % 256) [.int .u8 ((wrap64 (48 + (Int.tmod x0_1 10))) % 256)] from rfl) (Reps.none _ _))); intro v160 w4 ho5 hb hg_ hnew_; clear hg_ hnew_; (first | rw [← Ny159.out] at ho5 | (simp only [Int.reduceToNat] at ho5; rw [← Ny159.out] at ho5)); have n0_ := Aside0.mk (Kd.R_lower ho5 (below_size (by repeat (first | (with_reducible first | exact HB.out | apply below_alloc | apply pw_below_drewN | apply below_drew1) | exact HB.out)))); have n1_ := Aside0.mk (below_step (by repeat (first | (with_reducible first | exact HB.out | apply below_alloc | apply pw_below_drewN | apply below_drew1) | exact HB.out)) hb); clear HB; have HO161 := n0_; have HB := n1_; clear n0_ n1_; clear hb ho5; have hcv6 := own_string (P := Try.prog) Try.underlying22 Try.underlying5 Try.underlying9 (Kd.own_of_R HO161.out)))
          go_roundg k1
          case measure => have := HK1.out; omega
          case rel => exact ⟨(wrap64 (Int.tdiv x0_1 10)), ((strOfNums y159) ++ x3_1), (by first | rfl | (simp; done) | (simp [*]; done)), (by first | rfl | (simp; done) | (simp [*]; done)), H', ⟨by have := HK1.out; omega⟩, ⟨by repeat (first | (with_reducible first | exact HB.out | apply below_alloc | apply pw_below_drewN | apply below_drew1) | exact HB.out)⟩⟩
        · rw [if_neg c3] at H
          exact absurd H (by simp)
      · rw [if_neg c2] at H
        have c2b0 : decide (9 < x0_1) = false := decide_eq_false c2
        clear c2
        obtain ⟨y162, hy162⟩ : ∃ y_ : List Int, y_ = (([(wrap64 (48 + x0_1)) % 256] : List Int)) := ⟨_, rfl⟩
        replace H : (if (strOfNums y162).size + x3_1.size ≤ 9223372036854775807 then (some ((strOfNums y162) ++ x3_1)) else (none)) = some r := by first | (rw [hy162]; with_reducible exact H) | (have H2_ := (Option.bind_some _ _).symm.trans H; rw [hy162]; with_reducible exact H2_) | (have H2_ := (Option.bind_some _ _).symm.trans H; with_reducible exact H2_) | with_reducible exact H | (rw [hy162]; exact H) | exact H
        have Ny162 := Aside0.mk hy162
        clear hy162
        by_cases c7 : (strOfNums y162).size + x3_1.size ≤ 9223372036854775807
        · rw [if_pos c7] at H
          have c7b0 := eq_true c7
          have c7b1 : decide ((strOfNums y162).size + x3_1.size ≤ 9223372036854775807) = true := decide_eq_true c7
          try have c7b2 : (9223372036854775807 < (strOfNums y162).size + x3_1.size) = False := eq_false (Nat.not_lt.2 c7)
          obtain rfl := Option.some.inj H
          go_wp2_with (first | ((with_reducible refine gate_dst (N := 19) rfl ?_); refine Kd.R_lit (Kd.int .u8) _ 5 ?hg (N := 19) ?hd (xs := ([(wrap64 (48 + x0_1)) % 256] : List Int)) (inner := [.int .u8 ((wrap64 (48 + x0_1)) % 256)]) (ok := fun _ => True) (okp := fun _ => True) ?hr ?hp (fun _ hk => hk) trivial (Below.refl _ _) (Nat.le_refl _) (by simp) ?_; (case hd => rfl); (case hg => rfl); (case hr => first | (go_simp; done) | (go_simp; rfl)); (case hp => exact (Reps.one (show Kd.M (Kd.int .u8) _ _ _ ((wrap64 (48 + x0_1)) % 256) [.int .u8 ((wrap64 (48 + x0_1)) % 256)] from rfl) (Reps.none _ _))); intro v163 w8 ho9 hb hg_ hnew_; clear hg_ hnew_; (first | rw [← Ny162.out] at ho9 | (simp only [Int.reduceToNat] at ho9; rw [← Ny162.out] at ho9)); have n0_ := Aside0.mk (Kd.R_lower ho9 (below_size (by repeat (first | (with_reducible first | exact HB.out | apply below_alloc | apply pw_below_drewN | apply below_drew1) | exact HB.out)))); have n1_ := Aside0.mk (below_step (by repeat (first | (with_reducible first | exact HB.out | apply below_alloc | apply pw_below_drewN | apply below_drew1) | exact HB.out)) hb); clear HB; have HO164 := n0_; have HB := n1_; clear n0_ n1_; clear hb ho9; have hcv10 := own_string (P := Try.prog) Try.underlying22 Try.underlying5 Try.underlying9 (Kd.own_of_R HO164.out)))
          go_ret
          exact ⟨by first | rfl | (simp [errW_none, errW_some] <;> rfl) | (simp [*, errW_none, errW_some] <;> rfl), by repeat (first | (with_reducible first | exact HB.out | apply below_alloc | apply pw_below_drewN | apply below_drew1) | exact HB.out)⟩
        · rw [if_neg c7] at H
          exact absurd H (by simp)
end Go.Proofs.Ytnjmhlhlmokjnaa.G
namespace Go.Proofs.Ytnjmhlhlmokjnaa.G
open Go.RowKit Go.Proofs.YtnjmhlhlmokjnaaW.PrintWords Go.Proofs.YtnjmhlhlmokjnaaW.PrintLast Go.Proofs.YtnjmhlhlmokjnaaW.PrintMore
attribute [local go_sem] max2_int min2_int max_two min_two max_three min_three max_four min_four
set_option linter.unusedVariables false
set_option linter.unusedSimpArgs false
mutual
def spec_l18Draw.l0 : Nat → List (S32) → List ByteArray → Int → List Int → Int → Int → Option ((List (S32)) × Int × Int)
  | 0, _, _, _, _, _, _ => none
  | k + 1, x3, x4, x5, x1000, x1001, x1002 => if x5 < (x4.length : Int) then ((spec_l1Once.f x1000 x1001 x1002 4).bind fun bt132 => (if bt132.1 = true then (spec_l18Draw.l0 k x3 x4 (wrap64 (x5 + 1)) x1000 bt132.2.1 bt132.2.2) else (if 0 ≤ x5 then ((spec_l1Below.f x1000 bt132.2.1 bt132.2.2 2).bind fun bt136 => ((spec_l2Int.f k bt136.1).bind fun t139 => (if 4 + t139.size ≤ 9223372036854775807 then ((spec_l1Once.f x1000 bt136.2.1 bt136.2.2 4).bind fun bt140 => (spec_l18Draw.l1 k x3 x4 x5 0 x1000 bt140.2.1 bt140.2.2 (rdOf ByteArray.empty x4 x5) ([] : List ByteArray) ([] : List ByteArray) ((⟨#[114, 117, 110, 32]⟩ : ByteArray) ++ t139) bt140.1)) else (none)))) else (none)))) else ((spec_l1Once.f x1000 x1001 x1002 14).bind fun bt171 => (if bt171.1 = true then (spec_l18Draw.j4 k x3 (decide ((x3.length : Int) > 0)) x1000 bt171.2.1 bt171.2.2) else (spec_l18Draw.j4 k x3 false x1000 bt171.2.1 bt171.2.2)))
def spec_l18Draw.l1 : Nat → List (S32) → List ByteArray → Int → Int → List Int → Int → Int → ByteArray → List ByteArray → List ByteArray → ByteArray → Bool → Option ((List (S32)) × Int × Int)
  | 0, _, _, _, _, _, _, _, _, _, _, _, _ => none
  | k + 1, x3, x4, x5, x7, x1000, x1001, x1002, x144000, x144001, x144002, x144003, x144004 => if x7 < (x4.length : Int) then ((spec_l1Once.f x1000 x1001 x1002 5).bind fun bt147 => (if bt147.1 = true then (if x7 < x5 then (spec_l18Draw.j2 k x3 x4 x5 x7 true x1000 bt147.2.1 bt147.2.2 x144000 x144001 x144002 x144003 x144004) else ((spec_l1Once.f x1000 bt147.2.1 bt147.2.2 5).bind fun bt150 => (spec_l18Draw.j2 k x3 x4 x5 x7 bt150.1 x1000 bt150.2.1 bt150.2.2 x144000 x144001 x144002 x144003 x144004))) else (spec_l18Draw.j2 k x3 x4 x5 x7 false x1000 bt147.2.1 bt147.2.2 x144000 x144001 x144002 x144003 x144004))) else (if x3.length < 1599289640401 then (spec_l18Draw.l0 k (x3 ++ [(⟨x144000, x144001, x144002, x144003, x144004⟩ : S32)]) x4 (wrap64 (x5 + 1)) x1000 x1001 x1002) else (none))
def spec_l18Draw.j2 : Nat → List (S32) → List ByteArray → Int → Int → Bool → List Int → Int → Int → ByteArray → List ByteArray → List ByteArray → ByteArray → Bool → Option ((List (S32)) × Int × Int)
  | 0, _, _, _, _, _, _, _, _, _, _, _, _, _ => none
  | k + 1, x3, x4, x5, x7, x46, x1000, x1001, x1002, x144000, x144001, x144002, x144003, x144004 => if x46 = true then (if 0 ≤ x7 then (if x7 < (x4.length : Int) then (if x144001.length < 8796093022208 then (spec_l18Draw.j3 k x3 x4 x5 x7 x1000 x1001 x1002 x144000 (x144001 ++ [rdOf ByteArray.empty x4 x7]) x144002 x144003 x144004) else (none)) else (none)) else (none)) else (spec_l18Draw.j3 k x3 x4 x5 x7 x1000 x1001 x1002 x144000 x144001 x144002 x144003 x144004)
def spec_l18Draw.j3 : Nat → List (S32) → List ByteArray → Int → Int → List Int → Int → Int → ByteArray → List ByteArray → List ByteArray → ByteArray → Bool → Option ((List (S32)) × Int × Int)
  | 0, _, _, _, _, _, _, _, _, _, _, _, _ => none
  | k + 1, x3, x4, x5, x7, x1000, x1001, x1002, x144000, x144001, x144002, x144003, x144004 => (spec_l1Once.f x1000 x1001 x1002 6).bind fun bt157 => (if bt157.1 = true then (if x7 < x5 then (if 0 ≤ x7 then (if x7 < (x4.length : Int) then (if x144002.length < 8796093022208 then (spec_l18Draw.l1 k x3 x4 x5 (wrap64 (x7 + 1)) x1000 bt157.2.1 bt157.2.2 x144000 x144001 (x144002 ++ [rdOf ByteArray.empty x4 x7]) x144003 x144004) else (none)) else (none)) else (none)) else ((spec_l1Once.f x1000 bt157.2.1 bt157.2.2 6).bind fun bt164 => (if bt164.1 = true then (if 0 ≤ x7 then (if x7 < (x4.length : Int) then (if x144002.length < 8796093022208 then (spec_l18Draw.l1 k x3 x4 x5 (wrap64 (x7 + 1)) x1000 bt164.2.1 bt164.2.2 x144000 x144001 (x144002 ++ [rdOf ByteArray.empty x4 x7]) x144003 x144004) else (none)) else (none)) else (none)) else (spec_l18Draw.l1 k x3 x4 x5 (wrap64 (x7 + 1)) x1000 bt164.2.1 bt164.2.2 x144000 x144001 x144002 x144003 x144004)))) else (spec_l18Draw.l1 k x3 x4 x5 (wrap64 (x7 + 1)) x1000 bt157.2.1 bt157.2.2 x144000 x144001 x144002 x144003 x144004))
def spec_l18Draw.j4 : Nat → List (S32) → Bool → List Int → Int → Int → Option ((List (S32)) × Int × Int)
  | 0, _, _, _, _, _ => none
  | k + 1, x3, x86, x1000, x1001, x1002 => if x86 = true then ((spec_l1Below.f x1000 x1001 x1002 (x3.length : Int)).bind fun bt174 => (if 0 ≤ bt174.1 then (if bt174.1 < (x3.length : Int) then ((spec_l1Below.f x1000 bt174.2.1 bt174.2.2 4).bind fun bt178 => (if bt178.1 = 0 then (some ((x3.set (bt174.1 : Int).toNat (⟨(⟨#[97]⟩ : ByteArray), (rd_T32 x3 bt174.1).f1, (rd_T32 x3 bt174.1).f2, (rd_T32 x3 bt174.1).f3, (rd_T32 x3 bt174.1).f4⟩ : S32)), bt178.2.1, bt178.2.2)) else (if bt178.1 = 1 then (some ((x3.set (bt174.1 : Int).toNat (⟨(rd_T32 x3 bt174.1).f0, (([(⟨#[98]⟩ : ByteArray), (⟨#[97]⟩ : ByteArray)] : List ByteArray)), (rd_T32 x3 bt174.1).f2, (rd_T32 x3 bt174.1).f3, (rd_T32 x3 bt174.1).f4⟩ : S32)), bt178.2.1, bt178.2.2)) else (if bt178.1 = 2 then (some ((x3.set (bt174.1 : Int).toNat (⟨(rd_T32 x3 bt174.1).f0, (rd_T32 x3 bt174.1).f1, (([(⟨#[]⟩ : ByteArray)] : List ByteArray)), (rd_T32 x3 bt174.1).f3, (rd_T32 x3 bt174.1).f4⟩ : S32)), bt178.2.1, bt178.2.2)) else (if bt178.1 = 3 then ((spec_l1Below.f x1000 bt178.2.1 bt178.2.2 2).bind fun bt190 => (if 0 ≤ (wrap64 (4000 + bt190.1)) then (if (wrap64 (4000 + bt190.1) : Int).toNat ≤ 281474976710656 then (some ((x3.set (bt174.1 : Int).toNat (⟨(rd_T32 x3 bt174.1).f0, (rd_T32 x3 bt174.1).f1, (rd_T32 x3 bt174.1).f2, strOfNums (List.replicate (wrap64 (4000 + bt190.1) : Int).toNat 0), (rd_T32 x3 bt174.1).f4⟩ : S32)), bt190.2.1, bt190.2.2)) else (none)) else (none))) else (some (x3, bt178.2.1, bt178.2.2))))))) else (none)) else (none))) else (some (x3, x1001, x1002))
end
def spec_l18Draw.f (k : Nat) (s0_0 : List Int) (s0_1 : Int) (s0_2 : Int) : Option ((List (S32)) × Int × Int) := spec_l18Draw.l0 k (([] : List (S32))) (([(⟨#[97]⟩ : ByteArray), (⟨#[98]⟩ : ByteArray), (⟨#[99]⟩ : ByteArray), (⟨#[100]⟩ : ByteArray), (⟨#[101]⟩ : ByteArray), (⟨#[102]⟩ : ByteArray)] : List ByteArray)) 0 s0_0 s0_1 s0_2
def spec_l18Draw.T7 : Bool × List (List Nat × List Nat) := (true, [([], []), ([], []), ([0, 1], [0, 1]), ([2], [2]), ([], []), ([4], [4]), ([5, 5], [5]), ([6], [6]), ([], []), ([8, 6], [8]), ([3, 7, 9], [3, 7, 9]), ([], []), ([11, 10, 9, 0, 1, 2, 3, 4, 5, 6, 7, 8, 9, 10, 11], [10, 11])])
def spec_l18Draw.B7 : List Nat := [0, 0, 3, 7, 0, 16, 48, 112, 0, 368, 1023, 0, 4095]
theorem spec_l18Draw.tab7 : rtab .any (opsOf Try.f42 7) = spec_l18Draw.T7 := by kernel_rfl
theorem spec_l18Draw.bits7 : waitsOk spec_l18Draw.T7.2 spec_l18Draw.B7 = true := by kernel_rfl
def spec_l18Draw.T12 : Bool × List (List Nat × List Nat) := (true, [([], []), ([0], [0]), ([], []), ([], []), ([2, 3], [2, 3]), ([4], [4]), ([5], [5]), ([1, 6], [1, 6]), ([0, 1, 2, 3, 4, 5, 6, 7], []), ([8, 7, 7, 0, 1, 2, 3, 4, 5, 6, 7], [7, 8])])
def spec_l18Draw.B12 : List Nat := [0, 1, 0, 0, 12, 28, 60, 127, 255, 511]
theorem spec_l18Draw.tab12 : rtab .any (opsOf Try.f42 12) = spec_l18Draw.T12 := by kernel_rfl
theorem spec_l18Draw.bits12 : waitsOk spec_l18Draw.T12.2 spec_l18Draw.B12 = true := by kernel_rfl
def spec_l18Draw.T14 : Bool × List (List Nat × List Nat) := (true, [([], []), ([0], [0]), ([], []), ([], []), ([2, 3], [2, 3]), ([4], [4]), ([5], [5]), ([1, 6], [1, 6]), ([0, 1, 2, 3, 4, 5, 6, 7], []), ([8, 7, 7, 0, 1, 2, 3, 4, 5, 6, 7], [7, 8])])
def spec_l18Draw.B14 : List Nat := [0, 1, 0, 0, 12, 28, 60, 127, 255, 511]
theorem spec_l18Draw.tab14 : rtab .any (opsOf Try.f42 14) = spec_l18Draw.T14 := by kernel_rfl
theorem spec_l18Draw.bits14 : waitsOk spec_l18Draw.T14.2 spec_l18Draw.B14 = true := by kernel_rfl
theorem Ia : ∀ {w0 W : Go.World} {g : Nat} {f0 : List Int} {f1 f2 : Int}, IsS84 w0 W g f0 f1 f2 → ∀ (o : Go.Obj), IsS84 w0 (W.alloc o) g f0 f1 f2 := @IsS84.alloc
theorem Ib : ∀ {w0 W : Go.World} {g : Nat} {f0 : List Int} {f1 f2 : Int}, IsS84 w0 W g f0 f1 f2 → ∀ (m : Nat), IsS84 w0 (W.drewN m) g f0 f1 f2 := @IsS84.drewN
theorem Ic : ∀ {w0 W : Go.World} {g : Nat} {f0 : List Int} {f1 f2 : Int}, IsS84 w0 W g f0 f1 f2 → IsS84 w0 W.drew g f0 f1 f2 := @IsS84.drew
theorem Ih : ∀ {w0 W : Go.World} {g : Nat} {f0 : List Int} {f1 f2 : Int}, IsS84 w0 W g f0 f1 f2 → ∀ (x : Int), IsS84 w0 (W.setCell { block := g, off := 1 } (Go.Value.int Go.IntKind.i64 x)) g f0 x f2 := @IsS84.set_1
theorem Ie : ∀ {w0 W : Go.World} {g : Nat} {f0 : List Int} {f1 f2 : Int}, IsS84 w0 W g f0 f1 f2 → ∀ (x : Int), IsS84 w0 (W.setCell { block := g, off := 2 } (Go.Value.int Go.IntKind.i64 x)) g f0 f1 x := @IsS84.set_2
theorem Ij : ∀ {w0 W : Go.World} {g : Nat} {f0 : List Int} {f1 f2 : Int} {α : Type} {d : Kd α} {e base : Nat} {ok : Nat → Prop} {v : Go.Value} {xs : List α}, IsS84 w0 W g f0 f1 f2 → d.S e W base ok v xs → (∀ (q : Nat), q ∈ e :: d.E → q ≠ 84) → d.S e W base (fun k => ok k ∧ k ≠ g) v xs := @IsS84.apartS
theorem Ig : ∀ {w0 W : Go.World} {g : Nat} {f0 : List Int} {f1 f2 : Int} {α : Type} {d : Kd α} {e base : Nat} {ok : Nat → Prop} {v : Go.Value} {xs : List α}, IsS84 w0 W g f0 f1 f2 → d.R e W base ok v xs → (∀ (q : Nat), q ∈ e :: d.E → q ≠ 84) → d.R e W base (fun k => ok k ∧ k ≠ g) v xs := @IsS84.apart
theorem Ba : ∀ {B : Nat} {w W : Go.World}, Below B w W → ∀ (n : Nat), Below B w (W.drewN n) := @pw_below_drewN
theorem Bb : ∀ {w W : Go.World}, Below w.heap.size w W → ∀ (o : Go.Obj), Below w.heap.size w (W.alloc o) := @below_alloc
theorem Bc : ∀ {base : Nat} {w W : Go.World}, Below base w W → Below base w W.drew := @below_drew1
theorem Bd : ∀ {w W : Go.World} {g j : Nat} {v : Go.Value}, Below w.heap.size w W → w.heap.size ≤ g → Below w.heap.size w (W.setCell { block := g, off := j } v) := @below_set
theorem Ka : ∀ {w W : Go.World} {g : Nat} {row : Option Nat}, KeepBut w W g row → ∀ (m : Nat), KeepBut w (W.drewN m) g row := @keep_drewN
theorem Kb : ∀ {w W : Go.World} {g : Nat} {row : Option Nat}, KeepBut w W g row → KeepBut w W.drew g row := @keep_drew
theorem Kc : ∀ {w W : Go.World} {g : Nat}, KeepBut w W g none → ∀ (o : Go.Obj), KeepBut w (W.alloc o) g none := @keep_alloc
theorem Ke : ∀ {w w1 : Go.World} {g : Nat} {row : Option Nat}, KeepBut w w1 g row → ∀ (j : Nat) (u : Go.Value), KeepBut w (w1.setCell { block := g, off := j } u) g row := @KeepBut.set_
theorem Ra : ∀ {α : Type} {d : Kd α} {e : Nat} {w : Go.World} {base : Nat} {ok : Nat → Prop} {v : Go.Value} {xs : List α}, d.R e w base ok v xs → ∀ (o : Go.Obj), d.R e (w.alloc o) base ok v xs := @Kd.R_alloc
theorem Rb : ∀ {α : Type} {d : Kd α} {e : Nat} {w : Go.World} {base : Nat} {ok : Nat → Prop} {v : Go.Value} {xs : List α}, d.R e w base ok v xs → ∀ (m : Nat), d.R e (w.drewN m) base ok v xs := @Kd.R_drewN
theorem Rc : ∀ {α : Type} {d : Kd α} {e : Nat} {w : Go.World} {base : Nat} {ok : Nat → Prop} {v : Go.Value} {xs : List α}, d.R e w base ok v xs → d.R e w.drew base ok v xs := @Kd.R_drew
theorem Sa : ∀ {α : Type} {d : Kd α} {e : Nat} {w : Go.World} {base : Nat} {ok : Nat → Prop} {v : Go.Value} {xs : List α}, d.S e w base ok v xs → ∀ (o : Go.Obj), d.S e (w.alloc o) base ok v xs := @Kd.S_alloc
theorem Sb : ∀ {α : Type} {d : Kd α} {e : Nat} {w : Go.World} {base : Nat} {ok : Nat → Prop} {v : Go.Value} {xs : List α}, d.S e w base ok v xs → ∀ (m : Nat), d.S e (w.drewN m) base ok v xs := @Kd.S_drewN
theorem Sc : ∀ {α : Type} {d : Kd α} {e : Nat} {w : Go.World} {base : Nat} {ok : Nat → Prop} {v : Go.Value} {xs : List α}, d.S e w base ok v xs → d.S e w.drew base ok v xs := @Kd.S_drew
theorem am : ∀ {p : Prop}, p → Aside0 p := @Aside0.mk
end Go.Proofs.Ytnjmhlhlmokjnaa.G
