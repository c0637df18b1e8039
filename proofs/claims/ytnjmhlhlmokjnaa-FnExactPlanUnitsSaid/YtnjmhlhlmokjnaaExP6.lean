/-
  Part 6 of the texts of this claim: XPlanImpl, XPlanSpec, XPlanSem, XExPlanUnits.
-/
import Derived.Test.YtnjmhlhlmokjnaaExP5
namespace Go.Proofs.Ytnjmhlhlmokjnaa.G
open Go.RowKit Go.Maps Go.Proofs.YtnjmhlhlmokjnaaW.PrintWords Go.Proofs.YtnjmhlhlmokjnaaW.PrintLast Go.Proofs.YtnjmhlhlmokjnaaW.PrintMore
set_option linter.unusedVariables false
set_option linter.unusedSimpArgs false
set_option maxHeartbeats 8000000 in
set_option maxRecDepth 100000 in
theorem impl_PlanUnits.calls (A0 : Option Addr) (c0 : Nat) (l0 : List S32) (A1 : Option Addr) (c1 : Nat) (l1 : List S32) (A2 : Option Addr) (c2 : Nat) (l2 : List ByteArray) (r : List S55) (w : World) (hr0 : Kd.C k32 w A0 l0.length l0) (hc0 : l0.length ≤ c0) (hr1 : Kd.C k32 w A1 l1.length l1) (hc1 : l1.length ≤ c1) (hr2 : Kd.C Kd.string w A2 l2.length l2) (hc2 : l2.length ≤ c2) (h : impl_PlanUnits.f l0 l1 l2 = some r) :
    Calls Try.prog 34 #[.slice A0 l0.length c0, .slice A1 l1.length c1, .slice A2 l2.length c2] w fun e w' => ∃ v0_ : Value, e = .returned (v0_) ∧ Kd.R k55 55 w' w.heap.size (fun _ => True) v0_ r ∧ Below w.heap.size w w' := by
  have hu55 := Try.underlying55
  have hu32 := Try.underlying32
  have HR0 := Aside0.mk hr0
  have HR1 := Aside0.mk hr1
  have HR2 := Aside0.mk hr2
  have HC0 := Aside0.mk hc0
  have HC1 := Aside0.mk hc1
  have HC2 := Aside0.mk hc2
  clear hr0 hc0 hr1 hc1 hr2 hc2
  have hr := (Option.some.inj h).symm
  clear h
  subst hr
  cases hok : unitsOkB l0 with
  | false =>
    have hf : impl_UnitsOk.f l0 = some false := by unfold impl_UnitsOk.f; rw [hok]
    have hp : planF l0 l1 l2 = [] := by unfold planF; rw [hok]; rfl
    rw [hp]
    go_enter Try.func34, Try.ntmps34
    go_wp2_with (first | (go_at_call 14; refine (impl_UnitsOk.calls A0 c0 l0 false _ HR0.out HC0.out hf).mono ?_; rintro e w' ⟨rfl, hb⟩) | fail)
    go_ret
    exact ⟨_, rfl, Kd.R_nil _ _ _ _ _, hb⟩
  | true =>
    have hf : impl_UnitsOk.f l0 = some true := by unfold impl_UnitsOk.f; rw [hok]
    cases hok1 : unitsOkB l1 with
    | false =>
      have hf1 : impl_UnitsOk.f l1 = some false := by unfold impl_UnitsOk.f; rw [hok1]
      have hp : planF l0 l1 l2 = [] := by unfold planF; rw [hok, hok1]; rfl
      rw [hp]
      go_enter Try.func34, Try.ntmps34
      go_wp2_with (first | (go_at_call_of 14 (Value.slice A0 l0.length c0); refine (impl_UnitsOk.calls A0 c0 l0 true _ HR0.out HC0.out hf).mono ?_; rintro e w1 ⟨rfl, hb⟩) | (go_at_call_of 14 (Value.slice A1 l1.length c1); refine (impl_UnitsOk.calls A1 c1 l1 false _ (Kd.C_below HR1.out hb) HC1.out hf1).mono ?_; rintro e w2 ⟨rfl, hb2⟩) | fail)
      go_ret
      exact ⟨_, rfl, Kd.R_nil _ _ _ _ _, below_weaken hb hb.size hb2⟩
    | true =>
      have hf1 : impl_UnitsOk.f l1 = some true := by unfold impl_UnitsOk.f; rw [hok1]
      by_cases hl : l2.length ≤ 2000
      · have hd1 : decide ((2000 : Int) < (l2.length : Int)) = false := decide_eq_false (by omega)
        have hd2 : decide (2000 < l2.length) = false := decide_eq_false (by omega)
        have hp : planF l0 l1 l2 = planL l0 l1 l2 := by unfold planF; rw [hok, hok1, decide_eq_true hl]; rfl
        rw [hp]
        have hl0 : l0.length ≤ 100 := (good_of_ok hok).len
        have hl1 : l1.length ≤ 100 := (good_of_ok hok1).len
        have hs0 : impl_startOrder.f l0 = some (startL l0) := by unfold impl_startOrder.f; rw [if_pos hok]
        have hs1 : impl_startOrder.f l1 = some (startL l1) := by unfold impl_startOrder.f; rw [if_pos hok1]
        have hso := (startL_inv l0).len
        have hso1 := (startL_inv l1).len
        have hw0 : IntKind.i64.wrap ((l0.length : Int) - 1) = (l0.length : Int) - 1 := IntWalk.i64_in _ ⟨by omega, by omega⟩
        go_enter Try.func34, Try.ntmps34
        go_wp2_with (first | (go_at_call_of 14 (Value.slice A0 l0.length c0); refine (impl_UnitsOk.calls A0 c0 l0 true _ HR0.out HC0.out hf).mono ?_; rintro e w1 ⟨rfl, hb⟩) | (go_at_call_of 14 (Value.slice A1 l1.length c1); refine (impl_UnitsOk.calls A1 c1 l1 true _ (Kd.C_below HR1.out hb) HC1.out hf1).mono ?_; rintro e w2 ⟨rfl, hb2⟩; replace hb2 := below_weaken hb hb.size hb2) | ((with_reducible refine gate_dst (N := 31) rfl ?_); refine Kd.R_lit k55 (w0 := w) w.heap.size 55 ?hg (N := 31) ?hd (xs := ([] : List S55)) (inner := []) (ok := fun _ => True) (okp := fun _ => False) ?hr ?hp (fun _ hk => hk.elim) trivial hb2 hb2.size (by simp) ?_; (case hd => rfl); (case hg => rfl); (case hr => first | (go_simp; done) | (go_simp; rfl)); (case hp => exact (Reps.none _ _)); intro v7 w3 ho7 hb3 hg3 hnew3) | (go_at_call 59; refine (impl_startOrder.calls A0 c0 l0 (startL l0) _ (Kd.C_below HR0.out hb3) HC0.out hs0).mono ?_; rintro e w4 ⟨v8, rfl, ho8, hb4⟩; have hb5 := below_weaken hb3 hb3.size hb4) | ((with_reducible refine gate_dst (N := 34) rfl ?_); refine Kd.R_lit Kd.string (w0 := w) w.heap.size 9 ?hg (N := 34) ?hd (xs := ([] : List ByteArray)) (inner := []) (ok := fun k => some k ≠ v8.ownBlock) (okp := fun _ => False) ?hr ?hp (fun _ hk => hk.elim) ?hf hb5 hb5.size (by simp) ?_; (case hd => rfl); (case hg => rfl); (case hf => exact (fun e => Nat.lt_irrefl _ (Kd.R_lt ho8 _ e.symm))); (case hr => first | (go_simp; done) | (go_simp; rfl)); (case hp => exact (Reps.none _ _)); intro v9 w6 ho9 hb6 hg6 hnew6) | fail)
        obtain ⟨A8, c8, hv8⟩ := Kd.R_slice ho8
        have HO8 := Aside0.mk (Kd.R_grown2 (Kd.R_lower ho8 hb3.size) rfl hg6 (fun k hk => by cases hk))
        have HO7 := Aside0.mk (Kd.R_grown2 (Kd.R_below ho7 hb4) rfl hg6 (fun k hk => by cases hk))
        have HO9 := Aside0.mk ho9
        have HB6 := Aside0.mk hb6
        clear ho8 ho7 ho9 hb hb2 hb3 hb4 hb5 hb6 hg3 hnew3 hg6 hnew6
        subst hv8
        go_loopw [10, 9] (fun v10 v9 wr => ∃ (c : Nat) (acc : List ByteArray) (q : Int), v10 = .int .i64 q ∧ q = (c : Int) - 1 ∧ c ≤ l0.length ∧ acc.length + c ≤ l0.length ∧ Aside0 (acc ++ stopA l0 c = stopA l0 l0.length) ∧ Aside0 (Kd.R Kd.string 9 wr w.heap.size (fun k => some k ≠ (Value.slice A8 (startL l0).length c8).ownBlock) v9 acc) ∧ Aside0 (Kd.R Kd.string 9 wr w.heap.size (fun _ => True) (Value.slice A8 (startL l0).length c8) (startL l0)) ∧ Aside0 (Kd.R k55 55 wr w.heap.size (fun _ => True) v7 []) ∧ Aside0 (Below w.heap.size w wr)) (fun v10 _ _ => (intOf v10 + 1).toNat)
        case atStart => exact ⟨l0.length, [], _, rfl, rfl, Nat.le_refl _, by simp, ⟨by simp⟩, HO9, HO8, HO7, HB6⟩
        case round =>
          clear HO9 HO8 HO7 HB6
          obtain ⟨c, acc, q, rfl, hq, hc, hac, HA, HO9, HO8, HO7, HB⟩ := hrel
          cases c with
          | zero =>
            obtain rfl : q = -1 := by omega
            clear hq
            have hacc : acc = stopA l0 l0.length := by
              have := HA.out
              rwa [show stopA l0 0 = [] from rfl, List.append_nil] at this
            have hw1 : IntKind.i64.wrap (((startL l0).length : Int) - 1) = ((startL l0).length : Int) - 1 := IntWalk.i64_in _ ⟨by omega, by omega⟩
            have hal : acc.length ≤ 100 := by omega
            have HAC := Aside0.mk hacc
            clear hacc HA hac
            go_wp2_with fail
            go_loopw [11, 9] (fun v11 v9 wr => ∃ (c : Nat) (st : List ByteArray) (q : Int), v11 = .int .i64 q ∧ q = (c : Int) - 1 ∧ c ≤ (startL l0).length ∧ st.length + c ≤ 200 ∧ Aside0 (st ++ ((startL l0).take c).reverse = stopsL l0) ∧ Aside0 (Kd.R Kd.string 9 wr w.heap.size (fun k => some k ≠ (Value.slice A8 (startL l0).length c8).ownBlock) v9 st) ∧ Aside0 (Kd.R Kd.string 9 wr w.heap.size (fun _ => True) (Value.slice A8 (startL l0).length c8) (startL l0)) ∧ Aside0 (Kd.R k55 55 wr w.heap.size (fun _ => True) v7 []) ∧ Aside0 (Below w.heap.size w wr)) (fun v11 _ _ => (intOf v11 + 1).toNat)
            case atStart => exact ⟨(startL l0).length, acc, _, rfl, rfl, Nat.le_refl _, by omega, ⟨by rw [List.take_length, HAC.out]; rfl⟩, HO9, HO8, HO7, HB⟩
            case round =>
              clear HO9 HO8 HO7 HB HAC hal
              obtain ⟨c, st, q, rfl, hq, hc, hsl, HA, HO9, HO8, HO7, HB⟩ := hrel
              cases c with
              | zero =>
                obtain rfl : q = -1 := by omega
                clear hq
                have hst : st = stopsL l0 := by
                  have := HA.out
                  rwa [List.take_zero, List.reverse_nil, List.append_nil] at this
                have hsl2 := stopsL_len l0
                obtain ⟨A9, c9, hv9⟩ := Kd.R_slice HO9.out
                rw [hst] at HO9 hv9
                subst hv9
                clear hst HA hsl
                go_wp2_with fail
                go_loopw [74, 7] (fun v74 v7 wr => ∃ (i : Nat), v74 = .int .i64 i ∧ i ≤ (stopsL l0).length ∧ Aside0 (Kd.R k55 55 wr w.heap.size (fun _ => True) v7 (((stopsL l0).take i).filterMap (stopAct l1 l2))) ∧ Aside0 (Kd.R Kd.string 9 wr w.heap.size (fun _ => True) (Value.slice A9 (stopsL l0).length c9) (stopsL l0)) ∧ Aside0 (Below w.heap.size w wr)) (fun v74 _ _ => (stopsL l0).length - (intOf v74).toNat)
                case atStart => exact ⟨0, rfl, Nat.zero_le _, HO7, ⟨Kd.R_mono HO9.out (fun _ _ => trivial)⟩, HB⟩
                case round =>
                  clear HO9 HO8 HO7 HB
                  obtain ⟨i, rfl, hi, HO7, HO9, HB⟩ := hrel
                  by_cases hlt : i < (stopsL l0).length
                  · have hsr := Kd.R_reads' HO9.out
                    obtain ⟨ad, hA, x0⟩ := Kd.at_string hsr.2.2 (i : Int) (by omega) (by omega)
                    cases hA
                    rw [rdOf_nat _ _ _ hlt] at x0
                    obtain ⟨s, hs0⟩ : ∃ s, s = (stopsL l0)[i] := ⟨_, rfl⟩
                    rw [← hs0] at x0
                    simp only [Int.toNat_natCast] at x0
                    have HS := Aside0.mk hs0
                    clear hs0 hsr
                    have hfl : (((stopsL l0).take i).filterMap (stopAct l1 l2)).length ≤ 200 := by
                      have := List.length_filterMap_le (stopAct l1 l2) ((stopsL l0).take i)
                      rw [List.length_take] at this
                      omega
                    cases hin : decide (s ∈ l2) with
                    | false =>
                      have he : stopAct l1 l2 (stopsL l0)[i] = none := by rw [← HS.out]; unfold stopAct; rw [hin]; rfl
                      have HF := Aside0.mk (fm_none hlt he)
                      go_wp2_with (first | (go_at_call 66; refine (in_c A2 c2 l2 s _ (Kd.C_below HR2.out HB.out) HC2.out).mono ?_; rintro e w7 ⟨rfl, hb7⟩; rw [hin]) | fail)
                      go_roundw
                      case rel => exact ⟨i + 1, by simp, hlt, ⟨by rw [HF.out]; exact Kd.R_below HO7.out hb7⟩, ⟨Kd.R_below HO9.out hb7⟩, ⟨below_weaken HB.out HB.out.size hb7⟩⟩
                      case measure => simp [intOf]; omega
                    | true =>
                      cases hh : hasU l1 s with
                      | true =>
                        have hd4 : decide (findU l1 s < 0) = false := by rw [findU_lt, hh]; rfl
                        have he : stopAct l1 l2 (stopsL l0)[i] = none := by rw [← HS.out]; unfold stopAct; rw [hin, hh]; rfl
                        have HF := Aside0.mk (fm_none hlt he)
                        go_wp2_with (first | (go_at_call 66; refine (in_c A2 c2 l2 s _ (Kd.C_below HR2.out HB.out) HC2.out).mono ?_; rintro e w7 ⟨rfl, hb7⟩; rw [hin]; have hB7 := below_weaken HB.out HB.out.size hb7) | (go_at_call 44; refine (unitOf_c A1 c1 l1 s _ (Kd.C_below HR1.out hB7) HC1.out (by omega)).mono ?_; rintro e w8 ⟨rfl, hb8⟩) | fail)
                        go_roundw
                        case rel => exact ⟨i + 1, by simp, hlt, ⟨by rw [HF.out]; exact Kd.R_below (Kd.R_below HO7.out hb7) hb8⟩, ⟨Kd.R_below (Kd.R_below HO9.out hb7) hb8⟩, ⟨below_weaken hB7 hB7.size hb8⟩⟩
                        case measure => simp [intOf]; omega
                      | false =>
                        have hd4 : decide (findU l1 s < 0) = true := by rw [findU_lt, hh]; rfl
                        have he : stopAct l1 l2 (stopsL l0)[i] = some ⟨1, s⟩ := by rw [← HS.out]; unfold stopAct; rw [hin, hh]; rfl
                        have HF := Aside0.mk (fm_some hlt he)
                        go_wp2_with (first | (go_at_call 66; refine (in_c A2 c2 l2 s _ (Kd.C_below HR2.out HB.out) HC2.out).mono ?_; rintro e w7 ⟨rfl, hb7⟩; rw [hin]; have hB7 := below_weaken HB.out HB.out.size hb7) | (go_at_call 44; refine (unitOf_c A1 c1 l1 s _ (Kd.C_below HR1.out hB7) HC1.out (by omega)).mono ?_; rintro e w8 ⟨rfl, hb8⟩; have hB8 := below_weaken hB7 hB7.size hb8; have hO7 := Kd.R_below (Kd.R_below HO7.out hb7) hb8; have hO9 := Kd.R_below (Kd.R_below HO9.out hb7) hb8) | ((with_reducible refine gate_builtin (b := .append) (xs := #[.tmp 87, .tmp 90]) rfl ?_); at_builtin; refine Kd.R_append k55 (w0 := w) w.heap.size rfl (.tmp 87) (.tmp 90) 51 55 (.agg #[(.int .i64 0), (.string ⟨#[]⟩)]) 24 rfl Try.underlying51 info55 rfl (by decide) (by omega) u7 (((stopsL l0).take i).filterMap (stopAct l1 l2)) (⟨1, s⟩ : S55) [.int .i64 1, .string s] (fun _ => True) (fun _ => False) rfl rfl ?aP (fun _ hk => hk.elim) (fun _ _ => trivial) hO7 hB8 hB8.size ?aL ?_; (case aP => exact k55_mkM _ _ _ (⟨1, s⟩ : S55)); (case aL => omega); intro v1 wz hoz hbz hgz hatz) | fail)
                        go_roundw
                        case rel => exact ⟨i + 1, by simp, hlt, ⟨by rw [HF.out]; exact hoz⟩, ⟨Kd.R_over' hO9 (Kd.R_typed hO7) (by decide) hgz⟩, ⟨hbz⟩⟩
                        case measure => simp [intOf]; omega
                  · have hie : i = (stopsL l0).length := by omega
                    subst hie
                    rw [List.take_length] at HO7
                    have hfl : ((stopsL l0).filterMap (stopAct l1 l2)).length ≤ 200 := by
                      have := List.length_filterMap_le (stopAct l1 l2) (stopsL l0)
                      omega
                    clear HO9
                    go_wp2_with (first | (go_at_call 59; refine (impl_startOrder.calls A1 c1 l1 (startL l1) _ (Kd.C_below HR1.out HB.out) HC1.out hs1).mono ?_; rintro e w7 ⟨v94, rfl, ho94, hb7⟩; obtain ⟨A10, c10, hv94⟩ := Kd.R_slice ho94; subst hv94) | fail)
                    have HO94 := Aside0.mk (Kd.R_lower ho94 HB.out.size)
                    have HO77 := Aside0.mk (Kd.R_below HO7.out hb7)
                    have HB77 := Aside0.mk (below_weaken HB.out HB.out.size hb7)
                    clear ho94 hb7 HO7 HB
                    go_loopw [96, 7] (fun v96 v7 wr => ∃ (i : Nat), v96 = .int .i64 i ∧ i ≤ (startL l1).length ∧ Aside0 (Kd.R k55 55 wr w.heap.size (fun _ => True) v7 ((stopsL l0).filterMap (stopAct l1 l2) ++ ((startL l1).take i).filterMap (startAct l0 l1 l2))) ∧ Aside0 (Kd.R Kd.string 9 wr w.heap.size (fun _ => True) (Value.slice A10 (startL l1).length c10) (startL l1)) ∧ Aside0 (Below w.heap.size w wr)) (fun v96 _ _ => (startL l1).length - (intOf v96).toNat)
                    case atStart => exact ⟨0, rfl, Nat.zero_le _, ⟨by simpa using HO77.out⟩, HO94, HB77⟩
                    case round =>
                      clear HO77 HO94 HB77
                      obtain ⟨i, rfl, hi, HO7, HO9, HB⟩ := hrel
                      by_cases hlt : i < (startL l1).length
                      · have hsr := Kd.R_reads' HO9.out
                        obtain ⟨ad, hA, x0⟩ := Kd.at_string hsr.2.2 (i : Int) (by omega) (by omega)
                        cases hA
                        rw [rdOf_nat _ _ _ hlt] at x0
                        have hhas := hasU_start (List.getElem_mem hlt)
                        obtain ⟨s, hs0⟩ : ∃ s, s = (startL l1)[i] := ⟨_, rfl⟩
                        rw [← hs0] at x0 hhas
                        simp only [Int.toNat_natCast] at x0
                        have HS := Aside0.mk hs0
                        clear hs0 hsr
                        have hf0 : 0 ≤ findU l1 s := by have := (findU_ge l1 s); rw [hhas] at this; simpa using this
                        have hf1 := findU_bound l1 s
                        obtain ⟨B, B1, d1, B2, d2, hA1, y0, y1, y2, y3, y4, _, _, _, _⟩ := at_T32 HR1.out (findU l1 s) hf0 hf1
                        cases hA1
                        have hex : (rd_T32 l1 (findU l1 s)).f3 = execU l1 s := rfl
                        have hkp : (rd_T32 l1 (findU l1 s)).f4 = keepU l1 s := rfl
                        obtain ⟨n, hn⟩ : ∃ n, n = rd_T32 l1 (findU l1 s) := ⟨_, rfl⟩
                        rw [← hn] at y0 y1 y2 y3 y4 hex hkp
                        have HEX := Aside0.mk hex
                        have HKP := Aside0.mk hkp
                        clear hn hex hkp
                        replace y0 := (HB.out.cell (World.block_lt_of_cell? w _ y0)).trans y0
                        replace y1 := (HB.out.cell (World.block_lt_of_cell? w _ y1)).trans y1
                        replace y2 := (HB.out.cell (World.block_lt_of_cell? w _ y2)).trans y2
                        replace y3 := (HB.out.cell (World.block_lt_of_cell? w _ y3)).trans y3
                        replace y4 := (HB.out.cell (World.block_lt_of_cell? w _ y4)).trans y4
                        have hy0 := World.block_lt_of_cell? wr _ y0
                        have hy1 := World.block_lt_of_cell? wr _ y1
                        have hy2 := World.block_lt_of_cell? wr _ y2
                        have hy3 := World.block_lt_of_cell? wr _ y3
                        have hy4 := World.block_lt_of_cell? wr _ y4
                        have hf0' := eq_true hf0
                        have hf1' := eq_true hf1
                        have hlen : ((stopsL l0).filterMap (stopAct l1 l2) ++ ((startL l1).take i).filterMap (startAct l0 l1 l2)).length ≤ 400 := by
                          have := List.length_filterMap_le (startAct l0 l1 l2) ((startL l1).take i)
                          rw [List.length_take] at this
                          rw [List.length_append]
                          omega
                        obtain ⟨P, hP⟩ : ∃ P, P = (stopsL l0).filterMap (stopAct l1 l2) ++ ((startL l1).take i).filterMap (startAct l0 l1 l2) := ⟨_, rfl⟩
                        rw [← hP] at HO7 hlen
                        have HP := Aside0.mk hP
                        clear hP
                        cases hin : decide (s ∈ l2) with
                        | false =>
                          have HF := Aside0.mk (fm_some hlt (by rw [← HS.out]; exact start_in (old := l0) (new := l1) hin))
                          go_wp2_with (first | (go_at_call_of 44 (Value.slice (some B) l1.length c1); refine (unitOf_c (some B) c1 l1 s _ (Kd.C_below HR1.out HB.out) HC1.out (by omega)).mono ?_; rintro e w7 ⟨rfl, hb7⟩; replace y0 := (hb7.cell hy0).trans y0; replace y1 := (hb7.cell hy1).trans y1; replace y2 := (hb7.cell hy2).trans y2; replace y3 := (hb7.cell hy3).trans y3; replace y4 := (hb7.cell hy4).trans y4; have hBa := below_alloc (below_weaken HB.out HB.out.size hb7) (.cells #[Value.string n.f0, Value.slice B1 n.f1.length d1, Value.slice B2 n.f2.length d2, Value.string n.f3, Value.bool n.f4] 32); have hO7a := Kd.R_alloc (Kd.R_below HO7.out hb7) (.cells #[Value.string n.f0, Value.slice B1 n.f1.length d1, Value.slice B2 n.f2.length d2, Value.string n.f3, Value.bool n.f4] 32); have hO9a := Kd.R_alloc (Kd.R_below HO9.out hb7) (.cells #[Value.string n.f0, Value.slice B1 n.f1.length d1, Value.slice B2 n.f2.length d2, Value.string n.f3, Value.bool n.f4] 32); have hnew := cell_new34 w7 (s := Value.string n.f0) (a := Value.slice B1 n.f1.length d1) (b := Value.slice B2 n.f2.length d2) (c := Value.string n.f3) (d := Value.bool n.f4); have hszn : w7.heap.size < (w7.alloc (.cells #[Value.string n.f0, Value.slice B1 n.f1.length d1, Value.slice B2 n.f2.length d2, Value.string n.f3, Value.bool n.f4] 32)).heap.size := blk_lt (blk_new _ _)) | (go_at_call 66; refine (in_c A2 c2 l2 s _ (Kd.C_below HR2.out hBa) HC2.out).mono ?_; rintro e w8 ⟨rfl, hb8⟩; rw [hin]; have hB8 := below_weaken hBa hBa.size hb8; have hO7 := Kd.R_below hO7a hb8; have hO9 := Kd.R_below hO9a hb8; have n3 := (hb8.cell (p := ⟨w7.heap.size, 3, none⟩) hszn).trans hnew.1; have n4 := (hb8.cell (p := ⟨w7.heap.size, 4, none⟩) hszn).trans hnew.2; have hszm := Nat.lt_of_lt_of_le hszn hb8.size) | ((with_reducible refine gate_builtin (b := .append) (xs := #[.tmp 110, .tmp 113]) rfl ?_); at_builtin; refine Kd.R_append k55 (w0 := w) w.heap.size rfl (.tmp 110) (.tmp 113) 51 55 (.agg #[(.int .i64 0), (.string ⟨#[]⟩)]) 24 rfl Try.underlying51 info55 rfl (by decide) (by omega) u7 P (⟨2, s⟩ : S55) [.int .i64 2, .string s] (fun _ => True) (fun _ => False) rfl rfl ?aP (fun _ hk => hk.elim) (fun _ _ => trivial) hO7 hB8 hB8.size ?aL ?_; (case aP => exact k55_mkM _ _ _ (⟨2, s⟩ : S55)); (case aL => omega); intro v1 wz hoz hbz hgz hatz) | fail)
                          go_roundw
                          case rel => exact ⟨i + 1, by simp, hlt, ⟨by rw [HF.out, ← List.append_assoc, ← HP.out]; exact hoz⟩, ⟨Kd.R_over' hO9 (Kd.R_typed hO7) (by decide) hgz⟩, ⟨hbz⟩⟩
                          case measure => simp [intOf]; omega
                        | true =>
                          have skip : restB l0 l1 s = false → Aside0 ((stopsL l0).filterMap (stopAct l1 l2) ++ ((startL l1).take (i + 1)).filterMap (startAct l0 l1 l2) = P) := fun h => ⟨by rw [fm_none hlt (by rw [← HS.out]; exact start_out hin h), ← HP.out]⟩
                          cases hh : hasU l0 s with
                          | false =>
                            have hd5 : decide ((0 : Int) ≤ findU l0 s) = false := by rw [findU_has, hh]
                            have HF := skip (by unfold restB; rw [hh]; rfl)
                            go_wp2_with (first | (go_at_call_of 44 (Value.slice (some B) l1.length c1); refine (unitOf_c (some B) c1 l1 s _ (Kd.C_below HR1.out HB.out) HC1.out (by omega)).mono ?_; rintro e w7 ⟨rfl, hb7⟩; replace y0 := (hb7.cell hy0).trans y0; replace y1 := (hb7.cell hy1).trans y1; replace y2 := (hb7.cell hy2).trans y2; replace y3 := (hb7.cell hy3).trans y3; replace y4 := (hb7.cell hy4).trans y4; have hBa := below_alloc (below_weaken HB.out HB.out.size hb7) (.cells #[Value.string n.f0, Value.slice B1 n.f1.length d1, Value.slice B2 n.f2.length d2, Value.string n.f3, Value.bool n.f4] 32); have hO7a := Kd.R_alloc (Kd.R_below HO7.out hb7) (.cells #[Value.string n.f0, Value.slice B1 n.f1.length d1, Value.slice B2 n.f2.length d2, Value.string n.f3, Value.bool n.f4] 32); have hO9a := Kd.R_alloc (Kd.R_below HO9.out hb7) (.cells #[Value.string n.f0, Value.slice B1 n.f1.length d1, Value.slice B2 n.f2.length d2, Value.string n.f3, Value.bool n.f4] 32); have hnew := cell_new34 w7 (s := Value.string n.f0) (a := Value.slice B1 n.f1.length d1) (b := Value.slice B2 n.f2.length d2) (c := Value.string n.f3) (d := Value.bool n.f4); have hszn : w7.heap.size < (w7.alloc (.cells #[Value.string n.f0, Value.slice B1 n.f1.length d1, Value.slice B2 n.f2.length d2, Value.string n.f3, Value.bool n.f4] 32)).heap.size := blk_lt (blk_new _ _)) | (go_at_call 66; refine (in_c A2 c2 l2 s _ (Kd.C_below HR2.out hBa) HC2.out).mono ?_; rintro e w8 ⟨rfl, hb8⟩; rw [hin]; have hB8 := below_weaken hBa hBa.size hb8; have hO7 := Kd.R_below hO7a hb8; have hO9 := Kd.R_below hO9a hb8; have n3 := (hb8.cell (p := ⟨w7.heap.size, 3, none⟩) hszn).trans hnew.1; have n4 := (hb8.cell (p := ⟨w7.heap.size, 4, none⟩) hszn).trans hnew.2; have hszm := Nat.lt_of_lt_of_le hszn hb8.size) | (go_at_call_of 44 (Value.slice A0 l0.length c0); refine (unitOf_c A0 c0 l0 s _ (Kd.C_below HR0.out hB8) HC0.out (by omega)).mono ?_; rintro e w9 ⟨rfl, hb9⟩; have hB9 := below_weaken hB8 hB8.size hb9; have hO7' := Kd.R_below hO7 hb9; have hO9' := Kd.R_below hO9 hb9; have m3 := (hb9.cell (p := ⟨w7.heap.size, 3, none⟩) hszm).trans n3; have m4 := (hb9.cell (p := ⟨w7.heap.size, 4, none⟩) hszm).trans n4; clear n3 n4) | fail)
                            go_quiet (fail)
                            go_wp2_with fail
                            go_roundw
                            case rel => exact ⟨i + 1, by simp, hlt, ⟨by rw [HF.out]; exact Kd.R_drewN hO7' _⟩, ⟨Kd.R_drewN hO9' _⟩, ⟨pw_below_drewN hB9 _⟩⟩
                            case measure => simp [intOf]; omega
                          | true =>
                            have hd5 : decide ((0 : Int) ≤ findU l0 s) = true := by rw [findU_has, hh]
                            have hg0 : 0 ≤ findU l0 s := of_decide_eq_true hd5
                            have hg1 := findU_bound l0 s
                            obtain ⟨E, E1, e1, E2, e2, hA0, z0, z1, z2, z3, z4, _, _, _, _⟩ := at_T32 HR0.out (findU l0 s) hg0 hg1
                            cases hA0
                            have hex0 : (rd_T32 l0 (findU l0 s)).f3 = execU l0 s := rfl
                            obtain ⟨m, hm⟩ : ∃ m, m = (rd_T32 l0 (findU l0 s)).f3 := ⟨_, rfl⟩
                            rw [← hm] at z3 hex0
                            have HEX0 := Aside0.mk hex0
                            have Z := Aside0.mk z3
                            clear hm hex0 z0 z1 z2 z3 z4
                            have hg0' := eq_true hg0
                            have hg1' := eq_true hg1
                            by_cases he : m = n.f3
                            · subst he
                              have HF := skip (by unfold restB; rw [hh, decide_eq_true (HEX0.out.symm.trans HEX.out)]; rfl)
                              have hq1 : (n.f3.toList == n.f3.toList) = true := beq_self_eq_true _
                              go_wp2_with (first | (go_at_call_of 44 (Value.slice (some B) l1.length c1); refine (unitOf_c (some B) c1 l1 s _ (Kd.C_below HR1.out HB.out) HC1.out (by omega)).mono ?_; rintro e w7 ⟨rfl, hb7⟩; replace y0 := (hb7.cell hy0).trans y0; replace y1 := (hb7.cell hy1).trans y1; replace y2 := (hb7.cell hy2).trans y2; replace y3 := (hb7.cell hy3).trans y3; replace y4 := (hb7.cell hy4).trans y4; have hBa := below_alloc (below_weaken HB.out HB.out.size hb7) (.cells #[Value.string n.f0, Value.slice B1 n.f1.length d1, Value.slice B2 n.f2.length d2, Value.string n.f3, Value.bool n.f4] 32); have hO7a := Kd.R_alloc (Kd.R_below HO7.out hb7) (.cells #[Value.string n.f0, Value.slice B1 n.f1.length d1, Value.slice B2 n.f2.length d2, Value.string n.f3, Value.bool n.f4] 32); have hO9a := Kd.R_alloc (Kd.R_below HO9.out hb7) (.cells #[Value.string n.f0, Value.slice B1 n.f1.length d1, Value.slice B2 n.f2.length d2, Value.string n.f3, Value.bool n.f4] 32); have hnew := cell_new34 w7 (s := Value.string n.f0) (a := Value.slice B1 n.f1.length d1) (b := Value.slice B2 n.f2.length d2) (c := Value.string n.f3) (d := Value.bool n.f4); have hszn : w7.heap.size < (w7.alloc (.cells #[Value.string n.f0, Value.slice B1 n.f1.length d1, Value.slice B2 n.f2.length d2, Value.string n.f3, Value.bool n.f4] 32)).heap.size := blk_lt (blk_new _ _)) | (go_at_call 66; refine (in_c A2 c2 l2 s _ (Kd.C_below HR2.out hBa) HC2.out).mono ?_; rintro e w8 ⟨rfl, hb8⟩; rw [hin]; have hB8 := below_weaken hBa hBa.size hb8; have hO7 := Kd.R_below hO7a hb8; have hO9 := Kd.R_below hO9a hb8; have n3 := (hb8.cell (p := ⟨w7.heap.size, 3, none⟩) hszn).trans hnew.1; have n4 := (hb8.cell (p := ⟨w7.heap.size, 4, none⟩) hszn).trans hnew.2; have hszm := Nat.lt_of_lt_of_le hszn hb8.size) | (go_at_call_of 44 (Value.slice (some E) l0.length c0); refine (unitOf_c (some E) c0 l0 s _ (Kd.C_below HR0.out hB8) HC0.out (by omega)).mono ?_; rintro e w9 ⟨rfl, hb9⟩; have hB9 := below_weaken hB8 hB8.size hb9; have hO7' := Kd.R_below hO7 hb9; have hO9' := Kd.R_below hO9 hb9; have m3 := (hb9.cell (p := ⟨w7.heap.size, 3, none⟩) hszm).trans n3; have m4 := (hb9.cell (p := ⟨w7.heap.size, 4, none⟩) hszm).trans n4; clear n3 n4; have m0 := (hB9.cell (World.block_lt_of_cell? w _ Z.out)).trans Z.out) | fail)
                              go_quiet (fail)
                              go_wp2_with fail
                              go_roundw
                              case rel => exact ⟨i + 1, by simp, hlt, ⟨by rw [HF.out]; exact Kd.R_drewN hO7' _⟩, ⟨Kd.R_drewN hO9' _⟩, ⟨pw_below_drewN hB9 _⟩⟩
                              case measure => simp [intOf]; omega
                            · have hne : ¬ m.toList = n.f3.toList := fun h => he (toList_inj h)
                              have hq1 : (m.toList == n.f3.toList) = false := beq_eq_false_iff_ne.2 hne
                              have hres : ∀ b, n.f4 = b → restB l0 l1 s = !b := fun b hb => by
                                unfold restB
                                rw [hh, decide_eq_false (fun h => he (HEX0.out.trans (h.trans HEX.out.symm))), ← HKP.out, hb]
                                rfl
                              cases hk : n.f4 with
                              | true =>
                                have HF := skip (hres true hk)
                                have HK := Aside0.mk hk
                                clear hk hres
                                go_wp2_with (first | (go_at_call_of 44 (Value.slice (some B) l1.length c1); refine (unitOf_c (some B) c1 l1 s _ (Kd.C_below HR1.out HB.out) HC1.out (by omega)).mono ?_; rintro e w7 ⟨rfl, hb7⟩; replace y0 := (hb7.cell hy0).trans y0; replace y1 := (hb7.cell hy1).trans y1; replace y2 := (hb7.cell hy2).trans y2; replace y3 := (hb7.cell hy3).trans y3; replace y4 := (hb7.cell hy4).trans y4; have hBa := below_alloc (below_weaken HB.out HB.out.size hb7) (.cells #[Value.string n.f0, Value.slice B1 n.f1.length d1, Value.slice B2 n.f2.length d2, Value.string n.f3, Value.bool n.f4] 32); have hO7a := Kd.R_alloc (Kd.R_below HO7.out hb7) (.cells #[Value.string n.f0, Value.slice B1 n.f1.length d1, Value.slice B2 n.f2.length d2, Value.string n.f3, Value.bool n.f4] 32); have hO9a := Kd.R_alloc (Kd.R_below HO9.out hb7) (.cells #[Value.string n.f0, Value.slice B1 n.f1.length d1, Value.slice B2 n.f2.length d2, Value.string n.f3, Value.bool n.f4] 32); have hnew := cell_new34 w7 (s := Value.string n.f0) (a := Value.slice B1 n.f1.length d1) (b := Value.slice B2 n.f2.length d2) (c := Value.string n.f3) (d := Value.bool n.f4); have hszn : w7.heap.size < (w7.alloc (.cells #[Value.string n.f0, Value.slice B1 n.f1.length d1, Value.slice B2 n.f2.length d2, Value.string n.f3, Value.bool n.f4] 32)).heap.size := blk_lt (blk_new _ _)) | (go_at_call 66; refine (in_c A2 c2 l2 s _ (Kd.C_below HR2.out hBa) HC2.out).mono ?_; rintro e w8 ⟨rfl, hb8⟩; rw [hin]; have hB8 := below_weaken hBa hBa.size hb8; have hO7 := Kd.R_below hO7a hb8; have hO9 := Kd.R_below hO9a hb8; have n3 := (hb8.cell (p := ⟨w7.heap.size, 3, none⟩) hszn).trans hnew.1; have n4 := (hb8.cell (p := ⟨w7.heap.size, 4, none⟩) hszn).trans hnew.2; have hszm := Nat.lt_of_lt_of_le hszn hb8.size) | (go_at_call_of 44 (Value.slice (some E) l0.length c0); refine (unitOf_c (some E) c0 l0 s _ (Kd.C_below HR0.out hB8) HC0.out (by omega)).mono ?_; rintro e w9 ⟨rfl, hb9⟩; have hB9 := below_weaken hB8 hB8.size hb9; have hO7' := Kd.R_below hO7 hb9; have hO9' := Kd.R_below hO9 hb9; have m3 := (hb9.cell (p := ⟨w7.heap.size, 3, none⟩) hszm).trans n3; have m4 := (hb9.cell (p := ⟨w7.heap.size, 4, none⟩) hszm).trans n4; clear n3 n4; have m0 := (hB9.cell (World.block_lt_of_cell? w _ Z.out)).trans Z.out; rw [HK.out] at m4) | fail)
                                go_quiet (fail)
                                go_wp2_with fail
                                go_roundw
                                case rel => exact ⟨i + 1, by simp, hlt, ⟨by rw [HF.out]; exact Kd.R_drewN hO7' _⟩, ⟨Kd.R_drewN hO9' _⟩, ⟨pw_below_drewN hB9 _⟩⟩
                                case measure => simp [intOf]; omega
                              | false =>
                                have HF := Aside0.mk (fm_some hlt (by rw [← HS.out]; exact start_re (old := l0) (new := l1) hin (hres false hk)))
                                have HK := Aside0.mk hk
                                clear hk hres
                                go_wp2_with (first | (go_at_call_of 44 (Value.slice (some B) l1.length c1); refine (unitOf_c (some B) c1 l1 s _ (Kd.C_below HR1.out HB.out) HC1.out (by omega)).mono ?_; rintro e w7 ⟨rfl, hb7⟩; replace y0 := (hb7.cell hy0).trans y0; replace y1 := (hb7.cell hy1).trans y1; replace y2 := (hb7.cell hy2).trans y2; replace y3 := (hb7.cell hy3).trans y3; replace y4 := (hb7.cell hy4).trans y4; have hBa := below_alloc (below_weaken HB.out HB.out.size hb7) (.cells #[Value.string n.f0, Value.slice B1 n.f1.length d1, Value.slice B2 n.f2.length d2, Value.string n.f3, Value.bool n.f4] 32); have hO7a := Kd.R_alloc (Kd.R_below HO7.out hb7) (.cells #[Value.string n.f0, Value.slice B1 n.f1.length d1, Value.slice B2 n.f2.length d2, Value.string n.f3, Value.bool n.f4] 32); have hO9a := Kd.R_alloc (Kd.R_below HO9.out hb7) (.cells #[Value.string n.f0, Value.slice B1 n.f1.length d1, Value.slice B2 n.f2.length d2, Value.string n.f3, Value.bool n.f4] 32); have hnew := cell_new34 w7 (s := Value.string n.f0) (a := Value.slice B1 n.f1.length d1) (b := Value.slice B2 n.f2.length d2) (c := Value.string n.f3) (d := Value.bool n.f4); have hszn : w7.heap.size < (w7.alloc (.cells #[Value.string n.f0, Value.slice B1 n.f1.length d1, Value.slice B2 n.f2.length d2, Value.string n.f3, Value.bool n.f4] 32)).heap.size := blk_lt (blk_new _ _)) | (go_at_call 66; refine (in_c A2 c2 l2 s _ (Kd.C_below HR2.out hBa) HC2.out).mono ?_; rintro e w8 ⟨rfl, hb8⟩; rw [hin]; have hB8 := below_weaken hBa hBa.size hb8; have hO7 := Kd.R_below hO7a hb8; have hO9 := Kd.R_below hO9a hb8; have n3 := (hb8.cell (p := ⟨w7.heap.size, 3, none⟩) hszn).trans hnew.1; have n4 := (hb8.cell (p := ⟨w7.heap.size, 4, none⟩) hszn).trans hnew.2; have hszm := Nat.lt_of_lt_of_le hszn hb8.size) | (go_at_call_of 44 (Value.slice (some E) l0.length c0); refine (unitOf_c (some E) c0 l0 s _ (Kd.C_below HR0.out hB8) HC0.out (by omega)).mono ?_; rintro e w9 ⟨rfl, hb9⟩; have hB9 := below_weaken hB8 hB8.size hb9; have hO7' := Kd.R_below hO7 hb9; have hO9' := Kd.R_below hO9 hb9; have m3 := (hb9.cell (p := ⟨w7.heap.size, 3, none⟩) hszm).trans n3; have m4 := (hb9.cell (p := ⟨w7.heap.size, 4, none⟩) hszm).trans n4; clear n3 n4; have m0 := (hB9.cell (World.block_lt_of_cell? w _ Z.out)).trans Z.out; rw [HK.out] at m4) | fail)
                                go_quiet (fail)
                                have hO7q := Kd.R_drewN hO7' nq
                                have hO9q := Kd.R_drewN hO9' nq
                                have hB9q := pw_below_drewN hB9 nq
                                go_wp2_with (first | ((with_reducible refine gate_builtin (b := .append) (xs := #[.tmp 135, .tmp 138]) rfl ?_); at_builtin; refine Kd.R_append k55 (w0 := w) w.heap.size rfl (.tmp 135) (.tmp 138) 51 55 (.agg #[(.int .i64 0), (.string ⟨#[]⟩)]) 24 rfl Try.underlying51 info55 rfl (by decide) (by omega) u7 P (⟨3, s⟩ : S55) [.int .i64 3, .string s] (fun _ => True) (fun _ => False) rfl rfl ?aP (fun _ hk => hk.elim) (fun _ _ => trivial) hO7q hB9q hB9q.size ?aL ?_; (case aP => exact k55_mkM _ _ _ (⟨3, s⟩ : S55)); (case aL => omega); intro v1 wz hoz hbz hgz hatz) | fail)
                                go_roundw
                                case rel => exact ⟨i + 1, by simp, hlt, ⟨by rw [HF.out, ← List.append_assoc, ← HP.out]; exact hoz⟩, ⟨Kd.R_over' hO9q (Kd.R_typed hO7q) (by decide) hgz⟩, ⟨hbz⟩⟩
                                case measure => simp [intOf]; omega
                      · have hie : i = (startL l1).length := by omega
                        subst hie
                        rw [List.take_length] at HO7
                        obtain ⟨A7, c7, hv7⟩ := Kd.R_slice HO7.out
                        subst hv7
                        go_wp2_with fail
                        go_ret
                        exact ⟨_, rfl, HO7.out, HB.out⟩
              | succ c =>
                obtain rfl : q = (c : Int) := by omega
                clear hq
                have hcl : c < (startL l0).length := by omega
                have hrs := rev_step hcl
                rw [hrs] at HA
                clear hrs
                have hsr := Kd.R_reads' HO8.out
                obtain ⟨ad, hA, x0⟩ := Kd.at_string hsr.2.2 (c : Int) (by omega) (by omega)
                cases hA
                rw [rdOf_nat _ _ _ hcl] at x0
                obtain ⟨u, hu0⟩ : ∃ u, u = (startL l0)[c] := ⟨_, rfl⟩
                rw [← hu0] at x0 HA
                simp only [Int.toNat_natCast] at x0
                clear hu0 hsr
                have hw2 : IntKind.i64.wrap ((c : Int) - 1) = (c : Int) - 1 := IntWalk.i64_in _ ⟨by omega, by omega⟩
                go_wp2_with (first | ((with_reducible refine gate_builtin (b := .append) (xs := #[.tmp 65, .tmp 70]) rfl ?_); at_builtin; refine Kd.R_append Kd.string (w0 := w) w.heap.size rfl (.tmp 65) (.tmp 70) 25 9 (.string ⟨#[]⟩) 16 rfl Try.underlying25 info9 rfl (by decide) (by omega) u9 st u [.string u] (fun k => some k ≠ (Value.slice (some ad) (startL l0).length c8).ownBlock) (fun _ => False) rfl rfl ?aP (fun _ hk => hk.elim) ?aF HO9.out HB.out HB.out.size ?aL ?_; (case aP => exact rfl); (case aF => exact (fun k hk e => absurd (Kd.R_lt HO8.out k e.symm) (by omega))); (case aL => omega); intro v1 w7 ho7 hb7 hg7 hat7) | fail)
                go_roundw
                case rel => exact ⟨c, st ++ [u], _, rfl, rfl, by omega, by simp; omega, ⟨by rw [List.append_assoc]; exact HA.out⟩, ⟨ho7⟩, ⟨Kd.R_grown2 HO8.out rfl hg7 (fun k hk => HO9.out.1 k hk)⟩, ⟨Kd.R_over' HO7.out (Kd.R_typed HO9.out) (by decide) hg7⟩, ⟨hb7⟩⟩
                case measure => simp [intOf]
          | succ c =>
            obtain rfl : q = (c : Int) := by omega
            clear hq
            have hcl : c < l0.length := by omega
            have hstp := stopA_step hcl
            rw [hstp] at HA
            clear hstp
            obtain ⟨ad, B1, d1, B2, d2, hA, x0, _, _, _, _, _, _, _, _⟩ := at_T32 HR0.out (c : Int) (by omega) (by omega)
            cases hA
            rw [rd_T32_nat l0 c hcl] at x0
            obtain ⟨u, hu0⟩ : ∃ u, u = l0[c].f0 := ⟨_, rfl⟩
            rw [← hu0] at x0 HA
            simp only [Int.toNat_natCast] at x0
            clear hu0
            replace x0 := (HB.out.cell (World.block_lt_of_cell? w _ x0)).trans x0
            have hw2 : IntKind.i64.wrap ((c : Int) - 1) = (c : Int) - 1 := IntWalk.i64_in _ ⟨by omega, by omega⟩
            have hblk := World.block_lt_of_cell? wr _ x0
            cases hin : decide (u ∈ startL l0) with
            | true =>
              rw [hin] at HA
              go_wp2_with (first | (go_at_call 66; refine (in_c A8 c8 (startL l0) u _ (Kd.R_reads' HO8.out).2.2 (Kd.R_reads' HO8.out).2.1).mono ?_; rintro e w7 ⟨rfl, hb7⟩; rw [hin]) | fail)
              go_roundw
              case rel => exact ⟨c, acc, _, rfl, rfl, by omega, by omega, ⟨by simpa using HA.out⟩, ⟨Kd.R_below HO9.out hb7⟩, ⟨Kd.R_below HO8.out hb7⟩, ⟨Kd.R_below HO7.out hb7⟩, ⟨below_weaken HB.out HB.out.size hb7⟩⟩
              case measure => simp [intOf]
            | false =>
              rw [hin] at HA
              go_wp2_with (first | (go_at_call 66; refine (in_c A8 c8 (startL l0) u _ (Kd.R_reads' HO8.out).2.2 (Kd.R_reads' HO8.out).2.1).mono ?_; rintro e w7 ⟨rfl, hb7⟩; rw [hin]; replace x0 := (hb7.cell hblk).trans x0; have ho9 := Kd.R_below HO9.out hb7; have ho8 := Kd.R_below HO8.out hb7; have ho7 := Kd.R_below HO7.out hb7; have hB7 := below_weaken HB.out HB.out.size hb7) | ((with_reducible refine gate_builtin (b := .append) (xs := #[.tmp 50, .tmp 56]) rfl ?_); at_builtin; refine Kd.R_append Kd.string (w0 := w) w.heap.size rfl (.tmp 50) (.tmp 56) 25 9 (.string ⟨#[]⟩) 16 rfl Try.underlying25 info9 rfl (by decide) (by omega) u9 acc u [.string u] (fun k => some k ≠ (Value.slice A8 (startL l0).length c8).ownBlock) (fun _ => False) rfl rfl ?aP (fun _ hk => hk.elim) ?aF ho9 hB7 hB7.size ?aL ?_; (case aP => exact rfl); (case aF => exact (fun k hk e => absurd (Kd.R_lt ho8 k e.symm) (by omega))); (case aL => omega); intro v1 w8 ho91 hb8 hg8 hat8) | fail)
              go_roundw
              case rel => exact ⟨c, acc ++ [u], _, rfl, rfl, by omega, by simp; omega, ⟨by rw [List.append_assoc]; exact HA.out⟩, ⟨ho91⟩, ⟨Kd.R_grown2 ho8 rfl hg8 (fun k hk => ho9.1 k hk)⟩, ⟨Kd.R_over' ho7 (Kd.R_typed ho9) (by decide) hg8⟩, ⟨hb8⟩⟩
              case measure => simp [intOf]
      · have hd1 : decide ((2000 : Int) < (l2.length : Int)) = true := decide_eq_true (by omega)
        have hd2 : decide (2000 < l2.length) = true := decide_eq_true (by omega)
        have hp : planF l0 l1 l2 = [] := by unfold planF; rw [hok, hok1, decide_eq_false hl]; rfl
        rw [hp]
        go_enter Try.func34, Try.ntmps34
        go_wp2_with (first | (go_at_call_of 14 (Value.slice A0 l0.length c0); refine (impl_UnitsOk.calls A0 c0 l0 true _ HR0.out HC0.out hf).mono ?_; rintro e w1 ⟨rfl, hb⟩) | (go_at_call_of 14 (Value.slice A1 l1.length c1); refine (impl_UnitsOk.calls A1 c1 l1 true _ (Kd.C_below HR1.out hb) HC1.out hf1).mono ?_; rintro e w2 ⟨rfl, hb2⟩) | fail)
        go_ret
        exact ⟨_, rfl, Kd.R_nil _ _ _ _ _, below_weaken hb hb.size hb2⟩
end Go.Proofs.Ytnjmhlhlmokjnaa.G
namespace Go.Proofs.Ytnjmhlhlmokjnaa.G
open Go.RowKit Go.Maps Go.Proofs.YtnjmhlhlmokjnaaW.PrintWords Go.Proofs.YtnjmhlhlmokjnaaW.PrintLast Go.Proofs.YtnjmhlhlmokjnaaW.PrintMore
set_option linter.unusedVariables false
set_option linter.unusedSimpArgs false
theorem order_c (A0 : Option Addr) (c0 : Nat) (l0 : List S32) (hok : unitsOkB l0 = true) (w : World) (hr0 : Kd.C k32 w A0 l0.length l0) (hc0 : l0.length ≤ c0) :
    Calls Try.prog 27 #[.slice A0 l0.length c0] w fun e w' => ∃ (v0_ : Value) (b : Bool), e = .returned (.tuple #[v0_, .bool b]) ∧ Kd.R Kd.string 9 w' w.heap.size (fun _ => True) v0_ (startL l0) ∧ Below w.heap.size w w' := by
  have h := specOrder_ev l0
  rw [if_pos hok] at h
  obtain ⟨k, hk⟩ := h.rounds
  exact (spec_StartOrder.calls k A0 c0 l0 _ _ w hr0 hc0 hk).mono fun e w' ⟨v, h1, h2, h3⟩ => ⟨v, _, h1, h2, h3⟩
set_option maxHeartbeats 8000000 in
set_option maxRecDepth 100000 in
theorem spec_PlanUnits.calls (A0 : Option Addr) (c0 : Nat) (l0 : List S32) (A1 : Option Addr) (c1 : Nat) (l1 : List S32) (A2 : Option Addr) (c2 : Nat) (l2 : List ByteArray) (r : List S55) (w : World) (hr0 : Kd.C k32 w A0 l0.length l0) (hc0 : l0.length ≤ c0) (hr1 : Kd.C k32 w A1 l1.length l1) (hc1 : l1.length ≤ c1) (hr2 : Kd.C Kd.string w A2 l2.length l2) (hc2 : l2.length ≤ c2) (h : spec_PlanUnits.f l0 l1 l2 = some r) :
    Calls Try.prog 36 #[.slice A0 l0.length c0, .slice A1 l1.length c1, .slice A2 l2.length c2] w fun e w' => ∃ v0_ : Value, e = .returned (v0_) ∧ Kd.R k55 55 w' w.heap.size (fun _ => True) v0_ r ∧ Below w.heap.size w w' := by
  have hu55 := Try.underlying55
  have hu32 := Try.underlying32
  have HR0 := Aside0.mk hr0
  have HR1 := Aside0.mk hr1
  have HR2 := Aside0.mk hr2
  have HC0 := Aside0.mk hc0
  have HC1 := Aside0.mk hc1
  have HC2 := Aside0.mk hc2
  clear hr0 hc0 hr1 hc1 hr2 hc2
  have hr := (Option.some.inj h).symm
  clear h
  subst hr
  cases hok : unitsOkB l0 with
  | false =>
    have hf : spec_UnitsOk.f l0 = some false := by unfold spec_UnitsOk.f; rw [hok]
    have hp : planF l0 l1 l2 = [] := by unfold planF; rw [hok]; rfl
    rw [hp]
    go_enter Try.func36, Try.ntmps36
    go_wp2_with (first | ((with_reducible refine gate_dst (N := 19) rfl ?_); refine Kd.R_lit k55 (w0 := w) w.heap.size 55 ?hg (N := 19) ?hd (xs := ([] : List S55)) (inner := []) (ok := fun _ => True) (okp := fun _ => False) ?hr ?hp (fun _ hk => hk.elim) trivial (Below.refl _ _) (Nat.le_refl _) (by simp) ?_; (case hd => rfl); (case hg => rfl); (case hr => first | (go_simp; done) | (go_simp; rfl)); (case hp => exact (Reps.none _ _)); intro v7 wl ho7 hbl hgl hnewl) | (go_at_call_of 13 (Value.slice A0 l0.length c0); refine (spec_UnitsOk.calls A0 c0 l0 false _ (Kd.C_below HR0.out hbl) HC0.out hf).mono ?_; rintro e w1 ⟨rfl, hb⟩; replace ho7 := Kd.R_below ho7 hb; replace hb := below_weaken hbl hbl.size hb) | fail)
    go_ret
    exact ⟨_, rfl, ho7, hb⟩
  | true =>
    have hf : spec_UnitsOk.f l0 = some true := by unfold spec_UnitsOk.f; rw [hok]
    cases hok1 : unitsOkB l1 with
    | false =>
      have hf1 : spec_UnitsOk.f l1 = some false := by unfold spec_UnitsOk.f; rw [hok1]
      have hp : planF l0 l1 l2 = [] := by unfold planF; rw [hok, hok1]; rfl
      rw [hp]
      go_enter Try.func36, Try.ntmps36
      go_wp2_with (first | ((with_reducible refine gate_dst (N := 19) rfl ?_); refine Kd.R_lit k55 (w0 := w) w.heap.size 55 ?hg (N := 19) ?hd (xs := ([] : List S55)) (inner := []) (ok := fun _ => True) (okp := fun _ => False) ?hr ?hp (fun _ hk => hk.elim) trivial (Below.refl _ _) (Nat.le_refl _) (by simp) ?_; (case hd => rfl); (case hg => rfl); (case hr => first | (go_simp; done) | (go_simp; rfl)); (case hp => exact (Reps.none _ _)); intro v7 wl ho7 hbl hgl hnewl) | (go_at_call_of 13 (Value.slice A0 l0.length c0); refine (spec_UnitsOk.calls A0 c0 l0 true _ (Kd.C_below HR0.out hbl) HC0.out hf).mono ?_; rintro e w1 ⟨rfl, hb⟩; replace ho7 := Kd.R_below ho7 hb; replace hb := below_weaken hbl hbl.size hb) | (go_at_call_of 13 (Value.slice A1 l1.length c1); refine (spec_UnitsOk.calls A1 c1 l1 false _ (Kd.C_below HR1.out hb) HC1.out hf1).mono ?_; rintro e w2 ⟨rfl, hb2⟩; replace ho7 := Kd.R_below ho7 hb2; replace hb2 := below_weaken hb hb.size hb2) | fail)
      go_ret
      exact ⟨_, rfl, ho7, hb2⟩
    | true =>
      have hf1 : spec_UnitsOk.f l1 = some true := by unfold spec_UnitsOk.f; rw [hok1]
      by_cases hl : l2.length ≤ 2000
      · have hd1 : decide ((2000 : Int) < (l2.length : Int)) = false := decide_eq_false (by omega)
        have hd2 : decide (2000 < l2.length) = false := decide_eq_false (by omega)
        have hp : planF l0 l1 l2 = planL l0 l1 l2 := by unfold planF; rw [hok, hok1, decide_eq_true hl]; rfl
        rw [hp]
        have hl0 : l0.length ≤ 100 := (good_of_ok hok).len
        have hl1 : l1.length ≤ 100 := (good_of_ok hok1).len
        have hso := (startL_inv l0).len
        have hso1 := (startL_inv l1).len
        have hw0 : IntKind.i64.wrap ((l0.length : Int) - 1) = (l0.length : Int) - 1 := IntWalk.i64_in _ ⟨by omega, by omega⟩
        go_enter Try.func36, Try.ntmps36
        go_wp2_with (first | ((with_reducible refine gate_dst (N := 19) rfl ?_); refine Kd.R_lit k55 (w0 := w) w.heap.size 55 ?hg (N := 19) ?hd (xs := ([] : List S55)) (inner := []) (ok := fun _ => True) (okp := fun _ => False) ?hr ?hp (fun _ hk => hk.elim) trivial (Below.refl _ _) (Nat.le_refl _) (by simp) ?_; (case hd => rfl); (case hg => rfl); (case hr => first | (go_simp; done) | (go_simp; rfl)); (case hp => exact (Reps.none _ _)); intro v7 wl ho7 hbl hgl hnewl) | (go_at_call_of 13 (Value.slice A0 l0.length c0); refine (spec_UnitsOk.calls A0 c0 l0 true _ (Kd.C_below HR0.out hbl) HC0.out hf).mono ?_; rintro e w1 ⟨rfl, hb⟩; replace ho7 := Kd.R_below ho7 hb; replace hb := below_weaken hbl hbl.size hb) | (go_at_call_of 13 (Value.slice A1 l1.length c1); refine (spec_UnitsOk.calls A1 c1 l1 true _ (Kd.C_below HR1.out hb) HC1.out hf1).mono ?_; rintro e w2 ⟨rfl, hb2⟩; replace ho7 := Kd.R_below ho7 hb2; replace hb2 := below_weaken hb hb.size hb2) | (go_at_call_of 27 (Value.slice A0 l0.length c0); refine (order_c A0 c0 l0 hok _ (Kd.C_below HR0.out hb2) HC0.out).mono ?_; rintro e w4 ⟨v8, b8, rfl, ho8, hb4⟩; have hb5 := below_weaken hb2 hb2.size hb4) | ((with_reducible refine gate_dst (N := 39) rfl ?_); refine Kd.R_lit Kd.string (w0 := w) w.heap.size 9 ?hg (N := 39) ?hd (xs := ([] : List ByteArray)) (inner := []) (ok := fun k => some k ≠ v8.ownBlock) (okp := fun _ => False) ?hr ?hp (fun _ hk => hk.elim) ?hf hb5 hb5.size (by simp) ?_; (case hd => rfl); (case hg => rfl); (case hf => exact (fun e => Nat.lt_irrefl _ (Kd.R_lt ho8 _ e.symm))); (case hr => first | (go_simp; done) | (go_simp; rfl)); (case hp => exact (Reps.none _ _)); intro v9 w6 ho9 hb6 hg6 hnew6) | fail)
        obtain ⟨A8, c8, hv8⟩ := Kd.R_slice ho8
        have HO8 := Aside0.mk (Kd.R_grown2 (Kd.R_lower ho8 hb2.size) rfl hg6 (fun k hk => by cases hk))
        have HO7 := Aside0.mk (Kd.R_grown2 (Kd.R_below ho7 hb4) rfl hg6 (fun k hk => by cases hk))
        have HO9 := Aside0.mk ho9
        have HB6 := Aside0.mk hb6
        clear ho8 ho7 ho9 hb hb2 hb4 hb5 hb6 hg6 hnew6 hbl hgl hnewl
        subst hv8
        go_loopw [11, 10] (fun v10 v9 wr => ∃ (c : Nat) (acc : List ByteArray) (q : Int), v10 = .int .i64 q ∧ q = (c : Int) - 1 ∧ c ≤ l0.length ∧ acc.length + c ≤ l0.length ∧ Aside0 (acc ++ stopA l0 c = stopA l0 l0.length) ∧ Aside0 (Kd.R Kd.string 9 wr w.heap.size (fun k => some k ≠ (Value.slice A8 (startL l0).length c8).ownBlock) v9 acc) ∧ Aside0 (Kd.R Kd.string 9 wr w.heap.size (fun _ => True) (Value.slice A8 (startL l0).length c8) (startL l0)) ∧ Aside0 (Kd.R k55 55 wr w.heap.size (fun _ => True) v7 []) ∧ Aside0 (Below w.heap.size w wr)) (fun v10 _ _ => (intOf v10 + 1).toNat)
        case atStart => exact ⟨l0.length, [], _, rfl, rfl, Nat.le_refl _, by simp, ⟨by simp⟩, HO9, HO8, HO7, HB6⟩
        case round =>
          clear HO9 HO8 HO7 HB6
          obtain ⟨c, acc, q, rfl, hq, hc, hac, HA, HO9, HO8, HO7, HB⟩ := hrel
          cases c with
          | zero =>
            obtain rfl : q = -1 := by omega
            clear hq
            have hacc : acc = stopA l0 l0.length := by
              have := HA.out
              rwa [show stopA l0 0 = [] from rfl, List.append_nil] at this
            have hw1 : IntKind.i64.wrap (((startL l0).length : Int) - 1) = ((startL l0).length : Int) - 1 := IntWalk.i64_in _ ⟨by omega, by omega⟩
            have hal : acc.length ≤ 100 := by omega
            have HAC := Aside0.mk hacc
            clear hacc HA hac
            go_wp2_with fail
            go_loopw [12, 10] (fun v11 v9 wr => ∃ (c : Nat) (st : List ByteArray) (q : Int), v11 = .int .i64 q ∧ q = (c : Int) - 1 ∧ c ≤ (startL l0).length ∧ st.length + c ≤ 200 ∧ Aside0 (st ++ ((startL l0).take c).reverse = stopsL l0) ∧ Aside0 (Kd.R Kd.string 9 wr w.heap.size (fun k => some k ≠ (Value.slice A8 (startL l0).length c8).ownBlock) v9 st) ∧ Aside0 (Kd.R Kd.string 9 wr w.heap.size (fun _ => True) (Value.slice A8 (startL l0).length c8) (startL l0)) ∧ Aside0 (Kd.R k55 55 wr w.heap.size (fun _ => True) v7 []) ∧ Aside0 (Below w.heap.size w wr)) (fun v11 _ _ => (intOf v11 + 1).toNat)
            case atStart => exact ⟨(startL l0).length, acc, _, rfl, rfl, Nat.le_refl _, by omega, ⟨by rw [List.take_length, HAC.out]; rfl⟩, HO9, HO8, HO7, HB⟩
            case round =>
              clear HO9 HO8 HO7 HB HAC hal
              obtain ⟨c, st, q, rfl, hq, hc, hsl, HA, HO9, HO8, HO7, HB⟩ := hrel
              cases c with
              | zero =>
                obtain rfl : q = -1 := by omega
                clear hq
                have hst : st = stopsL l0 := by
                  have := HA.out
                  rwa [List.take_zero, List.reverse_nil, List.append_nil] at this
                have hsl2 := stopsL_len l0
                obtain ⟨A9, c9, hv9⟩ := Kd.R_slice HO9.out
                rw [hst] at HO9 hv9
                subst hv9
                clear hst HA hsl
                go_wp2_with fail
                go_loopw [13, 7] (fun v74 v7 wr => ∃ (i : Nat), v74 = .int .i64 i ∧ i ≤ (stopsL l0).length ∧ Aside0 (Kd.R k55 55 wr w.heap.size (fun _ => True) v7 (((stopsL l0).take i).filterMap (stopAct l1 l2))) ∧ Aside0 (Kd.R Kd.string 9 wr w.heap.size (fun _ => True) (Value.slice A9 (stopsL l0).length c9) (stopsL l0)) ∧ Aside0 (Below w.heap.size w wr)) (fun v74 _ _ => (stopsL l0).length - (intOf v74).toNat)
                case atStart => exact ⟨0, rfl, Nat.zero_le _, HO7, ⟨Kd.R_mono HO9.out (fun _ _ => trivial)⟩, HB⟩
                case round =>
                  clear HO9 HO8 HO7 HB
                  obtain ⟨i, rfl, hi, HO7, HO9, HB⟩ := hrel
                  by_cases hlt : i < (stopsL l0).length
                  · have hsr := Kd.R_reads' HO9.out
                    obtain ⟨ad, hA, x0⟩ := Kd.at_string hsr.2.2 (i : Int) (by omega) (by omega)
                    cases hA
                    rw [rdOf_nat _ _ _ hlt] at x0
                    obtain ⟨s, hs0⟩ : ∃ s, s = (stopsL l0)[i] := ⟨_, rfl⟩
                    rw [← hs0] at x0
                    simp only [Int.toNat_natCast] at x0
                    have hx0 := World.block_lt_of_cell? wr _ x0
                    have HS := Aside0.mk hs0
                    clear hs0 hsr
                    have hfl : (((stopsL l0).take i).filterMap (stopAct l1 l2)).length ≤ 200 := by
                      have := List.length_filterMap_le (stopAct l1 l2) ((stopsL l0).take i)
                      rw [List.length_take] at this
                      omega
                    cases hin : decide (s ∈ l2) with
                    | false =>
                      have he : stopAct l1 l2 (stopsL l0)[i] = none := by rw [← HS.out]; unfold stopAct; rw [hin]; rfl
                      have HF := Aside0.mk (fm_none hlt he)
                      go_wp2_with (first | (go_at_call 51; refine (has_c A2 c2 l2 s _ (Kd.C_below HR2.out HB.out) HC2.out).mono ?_; rintro e w7 ⟨rfl, hb7⟩; rw [hin]; have hB7 := below_weaken HB.out HB.out.size hb7; replace x0 := (hb7.cell hx0).trans x0) | fail)
                      go_roundw
                      case rel => exact ⟨i + 1, by simp, hlt, ⟨by rw [HF.out]; exact Kd.R_below HO7.out hb7⟩, ⟨Kd.R_below HO9.out hb7⟩, ⟨hB7⟩⟩
                      case measure => simp [intOf]; omega
                    | true =>
                      cases hh : hasU l1 s with
                      | true =>
                        have hd4 : decide (findU l1 s < 0) = false := by rw [findU_lt, hh]; rfl
                        have he : stopAct l1 l2 (stopsL l0)[i] = none := by rw [← HS.out]; unfold stopAct; rw [hin, hh]; rfl
                        have HF := Aside0.mk (fm_none hlt he)
                        go_wp2_with (first | (go_at_call 51; refine (has_c A2 c2 l2 s _ (Kd.C_below HR2.out HB.out) HC2.out).mono ?_; rintro e w7 ⟨rfl, hb7⟩; rw [hin]; have hB7 := below_weaken HB.out HB.out.size hb7; replace x0 := (hb7.cell hx0).trans x0) | (go_at_call 52; refine (find_c A1 c1 l1 s _ (Kd.C_below HR1.out hB7) HC1.out (by omega)).mono ?_; rintro e w8 ⟨rfl, hb8⟩; have hB8 := below_weaken hB7 hB7.size hb8; have hO7 := Kd.R_below (Kd.R_below HO7.out hb7) hb8; have hO9 := Kd.R_below (Kd.R_below HO9.out hb7) hb8; replace x0 := (hb8.cell (Nat.lt_of_lt_of_le hx0 hb7.size)).trans x0) | fail)
                        go_roundw
                        case rel => exact ⟨i + 1, by simp, hlt, ⟨by rw [HF.out]; exact hO7⟩, ⟨hO9⟩, ⟨hB8⟩⟩
                        case measure => simp [intOf]; omega
                      | false =>
                        have hd4 : decide (findU l1 s < 0) = true := by rw [findU_lt, hh]; rfl
                        have he : stopAct l1 l2 (stopsL l0)[i] = some ⟨1, s⟩ := by rw [← HS.out]; unfold stopAct; rw [hin, hh]; rfl
                        have HF := Aside0.mk (fm_some hlt he)
                        go_wp2_with (first | (go_at_call 51; refine (has_c A2 c2 l2 s _ (Kd.C_below HR2.out HB.out) HC2.out).mono ?_; rintro e w7 ⟨rfl, hb7⟩; rw [hin]; have hB7 := below_weaken HB.out HB.out.size hb7; replace x0 := (hb7.cell hx0).trans x0) | (go_at_call 52; refine (find_c A1 c1 l1 s _ (Kd.C_below HR1.out hB7) HC1.out (by omega)).mono ?_; rintro e w8 ⟨rfl, hb8⟩; have hB8 := below_weaken hB7 hB7.size hb8; have hO7 := Kd.R_below (Kd.R_below HO7.out hb7) hb8; have hO9 := Kd.R_below (Kd.R_below HO9.out hb7) hb8; replace x0 := (hb8.cell (Nat.lt_of_lt_of_le hx0 hb7.size)).trans x0) | ((with_reducible refine gate_builtin (b := .append) (xs := #[.tmp 98, .tmp 104]) rfl ?_); at_builtin; refine Kd.R_append k55 (w0 := w) w.heap.size rfl (.tmp 98) (.tmp 104) 51 55 (.agg #[(.int .i64 0), (.string ⟨#[]⟩)]) 24 rfl Try.underlying51 info55 rfl (by decide) (by omega) u7 (((stopsL l0).take i).filterMap (stopAct l1 l2)) (⟨1, s⟩ : S55) [.int .i64 1, .string s] (fun _ => True) (fun _ => False) rfl rfl ?aP (fun _ hk => hk.elim) (fun _ _ => trivial) hO7 hB8 hB8.size ?aL ?_; (case aP => exact k55_mkM _ _ _ (⟨1, s⟩ : S55)); (case aL => omega); intro v1 wz hoz hbz hgz hatz) | fail)
                        go_roundw
                        case rel => exact ⟨i + 1, by simp, hlt, ⟨by rw [HF.out]; exact hoz⟩, ⟨Kd.R_over' hO9 (Kd.R_typed hO7) (by decide) hgz⟩, ⟨hbz⟩⟩
                        case measure => simp [intOf]; omega
                  · have hie : i = (stopsL l0).length := by omega
                    subst hie
                    rw [List.take_length] at HO7
                    have hfl : ((stopsL l0).filterMap (stopAct l1 l2)).length ≤ 200 := by
                      have := List.length_filterMap_le (stopAct l1 l2) (stopsL l0)
                      omega
                    go_wp2_with (first | (go_at_call 27; refine (order_c A1 c1 l1 hok1 _ (Kd.C_below HR1.out HB.out) HC1.out).mono ?_; rintro e w7 ⟨v94, b94, rfl, ho94, hb7⟩; obtain ⟨A10, c10, hv94⟩ := Kd.R_slice ho94; subst hv94) | fail)
                    have HO94 := Aside0.mk (Kd.R_lower ho94 HB.out.size)
                    have HO77 := Aside0.mk (Kd.R_below HO7.out hb7)
                    have HB77 := Aside0.mk (below_weaken HB.out HB.out.size hb7)
                    clear ho94 hb7 HO7 HB HO9
                    go_loopw [16, 7] (fun v96 v7 wr => ∃ (i : Nat), v96 = .int .i64 i ∧ i ≤ (startL l1).length ∧ Aside0 (Kd.R k55 55 wr w.heap.size (fun _ => True) v7 ((stopsL l0).filterMap (stopAct l1 l2) ++ ((startL l1).take i).filterMap (startAct l0 l1 l2))) ∧ Aside0 (Kd.R Kd.string 9 wr w.heap.size (fun _ => True) (Value.slice A10 (startL l1).length c10) (startL l1)) ∧ Aside0 (Below w.heap.size w wr)) (fun v96 _ _ => (startL l1).length - (intOf v96).toNat)
                    case atStart => exact ⟨0, rfl, Nat.zero_le _, ⟨by simpa using HO77.out⟩, HO94, HB77⟩
                    case round =>
                      clear HO77 HO94 HB77
                      obtain ⟨i, rfl, hi, HO7, HO9, HB⟩ := hrel
                      by_cases hlt : i < (startL l1).length
                      · have hsr := Kd.R_reads' HO9.out
                        obtain ⟨ad, hA, x0⟩ := Kd.at_string hsr.2.2 (i : Int) (by omega) (by omega)
                        cases hA
                        rw [rdOf_nat _ _ _ hlt] at x0
                        have hhas := hasU_start (List.getElem_mem hlt)
                        obtain ⟨s, hs0⟩ : ∃ s, s = (startL l1)[i] := ⟨_, rfl⟩
                        rw [← hs0] at x0 hhas
                        simp only [Int.toNat_natCast] at x0
                        have hx0 := World.block_lt_of_cell? wr _ x0
                        have HS := Aside0.mk hs0
                        clear hs0 hsr
                        have hf0 : 0 ≤ findU l1 s := by have := (findU_ge l1 s); rw [hhas] at this; simpa using this
                        have hf1 := findU_bound l1 s
                        obtain ⟨B, B1, d1, B2, d2, hA1, y0, y1, y2, y3, y4, _, _, _, _⟩ := at_T32 HR1.out (findU l1 s) hf0 hf1
                        cases hA1
                        have hex : (rd_T32 l1 (findU l1 s)).f3 = execU l1 s := rfl
                        have hkp : (rd_T32 l1 (findU l1 s)).f4 = keepU l1 s := rfl
                        obtain ⟨n, hn⟩ : ∃ n, n = rd_T32 l1 (findU l1 s) := ⟨_, rfl⟩
                        rw [← hn] at y0 y1 y2 y3 y4 hex hkp
                        have HEX := Aside0.mk hex
                        have HKP := Aside0.mk hkp
                        clear hn hex hkp
                        replace y0 := (HB.out.cell (World.block_lt_of_cell? w _ y0)).trans y0
                        replace y1 := (HB.out.cell (World.block_lt_of_cell? w _ y1)).trans y1
                        replace y2 := (HB.out.cell (World.block_lt_of_cell? w _ y2)).trans y2
                        replace y3 := (HB.out.cell (World.block_lt_of_cell? w _ y3)).trans y3
                        replace y4 := (HB.out.cell (World.block_lt_of_cell? w _ y4)).trans y4
                        have hy0 := World.block_lt_of_cell? wr _ y0
                        have hy1 := World.block_lt_of_cell? wr _ y1
                        have hy2 := World.block_lt_of_cell? wr _ y2
                        have hy3 := World.block_lt_of_cell? wr _ y3
                        have hy4 := World.block_lt_of_cell? wr _ y4
                        have hf0' := eq_true hf0
                        have hf1' := eq_true hf1
                        have hlen : ((stopsL l0).filterMap (stopAct l1 l2) ++ ((startL l1).take i).filterMap (startAct l0 l1 l2)).length ≤ 400 := by
                          have := List.length_filterMap_le (startAct l0 l1 l2) ((startL l1).take i)
                          rw [List.length_take] at this
                          rw [List.length_append]
                          omega
                        obtain ⟨P, hP⟩ : ∃ P, P = (stopsL l0).filterMap (stopAct l1 l2) ++ ((startL l1).take i).filterMap (startAct l0 l1 l2) := ⟨_, rfl⟩
                        rw [← hP] at HO7 hlen
                        have HP := Aside0.mk hP
                        clear hP
                        cases hin : decide (s ∈ l2) with
                        | false =>
                          have HF := Aside0.mk (fm_some hlt (by rw [← HS.out]; exact start_in (old := l0) (new := l1) hin))
                          go_wp2_with (first | (go_at_call_of 52 (Value.slice (some B) l1.length c1); refine (find_c (some B) c1 l1 s _ (Kd.C_below HR1.out HB.out) HC1.out (by omega)).mono ?_; rintro e w7 ⟨rfl, hb7⟩; replace y0 := (hb7.cell hy0).trans y0; replace y1 := (hb7.cell hy1).trans y1; replace y2 := (hb7.cell hy2).trans y2; replace y3 := (hb7.cell hy3).trans y3; replace y4 := (hb7.cell hy4).trans y4; have hBa := below_alloc (below_weaken HB.out HB.out.size hb7) (.cells #[Value.string n.f0, Value.slice B1 n.f1.length d1, Value.slice B2 n.f2.length d2, Value.string n.f3, Value.bool n.f4] 32); have hbA := below_alloc hb7 (.cells #[Value.string n.f0, Value.slice B1 n.f1.length d1, Value.slice B2 n.f2.length d2, Value.string n.f3, Value.bool n.f4] 32); replace x0 := (hbA.cell hx0).trans x0; have hO7a := Kd.R_alloc (Kd.R_below HO7.out hb7) (.cells #[Value.string n.f0, Value.slice B1 n.f1.length d1, Value.slice B2 n.f2.length d2, Value.string n.f3, Value.bool n.f4] 32); have hO9a := Kd.R_alloc (Kd.R_below HO9.out hb7) (.cells #[Value.string n.f0, Value.slice B1 n.f1.length d1, Value.slice B2 n.f2.length d2, Value.string n.f3, Value.bool n.f4] 32); have hnew := cell_new34 w7 (s := Value.string n.f0) (a := Value.slice B1 n.f1.length d1) (b := Value.slice B2 n.f2.length d2) (c := Value.string n.f3) (d := Value.bool n.f4); have hszn : w7.heap.size < (w7.alloc (.cells #[Value.string n.f0, Value.slice B1 n.f1.length d1, Value.slice B2 n.f2.length d2, Value.string n.f3, Value.bool n.f4] 32)).heap.size := blk_lt (blk_new _ _)) | (go_at_call_of 52 (Value.slice A0 l0.length c0); refine (find_c A0 c0 l0 s _ (Kd.C_below HR0.out hBa) HC0.out (by omega)).mono ?_; rintro e w8 ⟨rfl, hb8⟩; have hB8 := below_weaken hBa hBa.size hb8; have hO7b := Kd.R_below hO7a hb8; have hO9b := Kd.R_below hO9a hb8; have n3 := (hb8.cell (p := ⟨w7.heap.size, 3, none⟩) hszn).trans hnew.1; have n4 := (hb8.cell (p := ⟨w7.heap.size, 4, none⟩) hszn).trans hnew.2; have hszm := Nat.lt_of_lt_of_le hszn hb8.size; replace x0 := (hb8.cell (Nat.lt_of_lt_of_le hx0 hbA.size)).trans x0) | (go_at_call 51; refine (has_c A2 c2 l2 s _ (Kd.C_below HR2.out hB8) HC2.out).mono ?_; rintro e w9 ⟨rfl, hb9⟩; rw [hin]; have hB9 := below_weaken hB8 hB8.size hb9; have hO7' := Kd.R_below hO7b hb9; have hO9' := Kd.R_below hO9b hb9; have m3 := (hb9.cell (p := ⟨w7.heap.size, 3, none⟩) hszm).trans n3; have m4 := (hb9.cell (p := ⟨w7.heap.size, 4, none⟩) hszm).trans n4; clear n3 n4; replace x0 := (hb9.cell (Nat.lt_of_lt_of_le (Nat.lt_of_lt_of_le hx0 hbA.size) hb8.size)).trans x0) | ((with_reducible refine gate_builtin (b := .append) (xs := #[.tmp 139, .tmp 145]) rfl ?_); at_builtin; refine Kd.R_append k55 (w0 := w) w.heap.size rfl (.tmp 139) (.tmp 145) 51 55 (.agg #[(.int .i64 0), (.string ⟨#[]⟩)]) 24 rfl Try.underlying51 info55 rfl (by decide) (by omega) u7 P (⟨2, s⟩ : S55) [.int .i64 2, .string s] (fun _ => True) (fun _ => False) rfl rfl ?aP (fun _ hk => hk.elim) (fun _ _ => trivial) hO7' hB9 hB9.size ?aL ?_; (case aP => exact k55_mkM _ _ _ (⟨2, s⟩ : S55)); (case aL => omega); intro v1 wz hoz hbz hgz hatz) | fail)
                          go_roundw
                          case rel => exact ⟨i + 1, by simp, hlt, ⟨by rw [HF.out, ← List.append_assoc, ← HP.out]; exact hoz⟩, ⟨Kd.R_over' hO9' (Kd.R_typed hO7') (by decide) hgz⟩, ⟨hbz⟩⟩
                          case measure => simp [intOf]; omega
                        | true =>
                          have skip : restB l0 l1 s = false → Aside0 ((stopsL l0).filterMap (stopAct l1 l2) ++ ((startL l1).take (i + 1)).filterMap (startAct l0 l1 l2) = P) := fun h => ⟨by rw [fm_none hlt (by rw [← HS.out]; exact start_out hin h), ← HP.out]⟩
                          cases hh : hasU l0 s with
                          | false =>
                            have hd5 : decide ((0 : Int) ≤ findU l0 s) = false := by rw [findU_has, hh]
                            have HF := skip (by unfold restB; rw [hh]; rfl)
                            go_wp2_with (first | (go_at_call_of 52 (Value.slice (some B) l1.length c1); refine (find_c (some B) c1 l1 s _ (Kd.C_below HR1.out HB.out) HC1.out (by omega)).mono ?_; rintro e w7 ⟨rfl, hb7⟩; replace y0 := (hb7.cell hy0).trans y0; replace y1 := (hb7.cell hy1).trans y1; replace y2 := (hb7.cell hy2).trans y2; replace y3 := (hb7.cell hy3).trans y3; replace y4 := (hb7.cell hy4).trans y4; have hBa := below_alloc (below_weaken HB.out HB.out.size hb7) (.cells #[Value.string n.f0, Value.slice B1 n.f1.length d1, Value.slice B2 n.f2.length d2, Value.string n.f3, Value.bool n.f4] 32); have hbA := below_alloc hb7 (.cells #[Value.string n.f0, Value.slice B1 n.f1.length d1, Value.slice B2 n.f2.length d2, Value.string n.f3, Value.bool n.f4] 32); replace x0 := (hbA.cell hx0).trans x0; have hO7a := Kd.R_alloc (Kd.R_below HO7.out hb7) (.cells #[Value.string n.f0, Value.slice B1 n.f1.length d1, Value.slice B2 n.f2.length d2, Value.string n.f3, Value.bool n.f4] 32); have hO9a := Kd.R_alloc (Kd.R_below HO9.out hb7) (.cells #[Value.string n.f0, Value.slice B1 n.f1.length d1, Value.slice B2 n.f2.length d2, Value.string n.f3, Value.bool n.f4] 32); have hnew := cell_new34 w7 (s := Value.string n.f0) (a := Value.slice B1 n.f1.length d1) (b := Value.slice B2 n.f2.length d2) (c := Value.string n.f3) (d := Value.bool n.f4); have hszn : w7.heap.size < (w7.alloc (.cells #[Value.string n.f0, Value.slice B1 n.f1.length d1, Value.slice B2 n.f2.length d2, Value.string n.f3, Value.bool n.f4] 32)).heap.size := blk_lt (blk_new _ _)) | (go_at_call_of 52 (Value.slice A0 l0.length c0); refine (find_c A0 c0 l0 s _ (Kd.C_below HR0.out hBa) HC0.out (by omega)).mono ?_; rintro e w8 ⟨rfl, hb8⟩; have hB8 := below_weaken hBa hBa.size hb8; have hO7b := Kd.R_below hO7a hb8; have hO9b := Kd.R_below hO9a hb8; have n3 := (hb8.cell (p := ⟨w7.heap.size, 3, none⟩) hszn).trans hnew.1; have n4 := (hb8.cell (p := ⟨w7.heap.size, 4, none⟩) hszn).trans hnew.2; have hszm := Nat.lt_of_lt_of_le hszn hb8.size; replace x0 := (hb8.cell (Nat.lt_of_lt_of_le hx0 hbA.size)).trans x0) | (go_at_call 51; refine (has_c A2 c2 l2 s _ (Kd.C_below HR2.out hB8) HC2.out).mono ?_; rintro e w9 ⟨rfl, hb9⟩; rw [hin]; have hB9 := below_weaken hB8 hB8.size hb9; have hO7' := Kd.R_below hO7b hb9; have hO9' := Kd.R_below hO9b hb9; have m3 := (hb9.cell (p := ⟨w7.heap.size, 3, none⟩) hszm).trans n3; have m4 := (hb9.cell (p := ⟨w7.heap.size, 4, none⟩) hszm).trans n4; clear n3 n4; replace x0 := (hb9.cell (Nat.lt_of_lt_of_le (Nat.lt_of_lt_of_le hx0 hbA.size) hb8.size)).trans x0) | fail)
                            go_quiet (fail)
                            go_wp2_with fail
                            go_roundw
                            case rel => exact ⟨i + 1, by simp, hlt, ⟨by rw [HF.out]; exact Kd.R_drewN hO7' _⟩, ⟨Kd.R_drewN hO9' _⟩, ⟨pw_below_drewN hB9 _⟩⟩
                            case measure => simp [intOf]; omega
                          | true =>
                            have hd5 : decide ((0 : Int) ≤ findU l0 s) = true := by rw [findU_has, hh]
                            have hg0 : 0 ≤ findU l0 s := of_decide_eq_true hd5
                            have hg1 := findU_bound l0 s
                            obtain ⟨E, E1, e1, E2, e2, hA0, z0, z1, z2, z3, z4, _, _, _, _⟩ := at_T32 HR0.out (findU l0 s) hg0 hg1
                            cases hA0
                            have hex0 : (rd_T32 l0 (findU l0 s)).f3 = execU l0 s := rfl
                            obtain ⟨m, hm⟩ : ∃ m, m = (rd_T32 l0 (findU l0 s)).f3 := ⟨_, rfl⟩
                            rw [← hm] at z3 hex0
                            have HEX0 := Aside0.mk hex0
                            have Z := Aside0.mk z3
                            clear hm hex0 z0 z1 z2 z3 z4
                            have hg0' := eq_true hg0
                            have hg1' := eq_true hg1
                            by_cases he : m = n.f3
                            · subst he
                              have HF := skip (by unfold restB; rw [hh, decide_eq_true (HEX0.out.symm.trans HEX.out)]; rfl)
                              have hq1 : (n.f3.toList == n.f3.toList) = true := beq_self_eq_true _
                              go_wp2_with (first | (go_at_call_of 52 (Value.slice (some B) l1.length c1); refine (find_c (some B) c1 l1 s _ (Kd.C_below HR1.out HB.out) HC1.out (by omega)).mono ?_; rintro e w7 ⟨rfl, hb7⟩; replace y0 := (hb7.cell hy0).trans y0; replace y1 := (hb7.cell hy1).trans y1; replace y2 := (hb7.cell hy2).trans y2; replace y3 := (hb7.cell hy3).trans y3; replace y4 := (hb7.cell hy4).trans y4; have hBa := below_alloc (below_weaken HB.out HB.out.size hb7) (.cells #[Value.string n.f0, Value.slice B1 n.f1.length d1, Value.slice B2 n.f2.length d2, Value.string n.f3, Value.bool n.f4] 32); have hbA := below_alloc hb7 (.cells #[Value.string n.f0, Value.slice B1 n.f1.length d1, Value.slice B2 n.f2.length d2, Value.string n.f3, Value.bool n.f4] 32); replace x0 := (hbA.cell hx0).trans x0; have hO7a := Kd.R_alloc (Kd.R_below HO7.out hb7) (.cells #[Value.string n.f0, Value.slice B1 n.f1.length d1, Value.slice B2 n.f2.length d2, Value.string n.f3, Value.bool n.f4] 32); have hO9a := Kd.R_alloc (Kd.R_below HO9.out hb7) (.cells #[Value.string n.f0, Value.slice B1 n.f1.length d1, Value.slice B2 n.f2.length d2, Value.string n.f3, Value.bool n.f4] 32); have hnew := cell_new34 w7 (s := Value.string n.f0) (a := Value.slice B1 n.f1.length d1) (b := Value.slice B2 n.f2.length d2) (c := Value.string n.f3) (d := Value.bool n.f4); have hszn : w7.heap.size < (w7.alloc (.cells #[Value.string n.f0, Value.slice B1 n.f1.length d1, Value.slice B2 n.f2.length d2, Value.string n.f3, Value.bool n.f4] 32)).heap.size := blk_lt (blk_new _ _)) | (go_at_call_of 52 (Value.slice (some E) l0.length c0); refine (find_c (some E) c0 l0 s _ (Kd.C_below HR0.out hBa) HC0.out (by omega)).mono ?_; rintro e w8 ⟨rfl, hb8⟩; have hB8 := below_weaken hBa hBa.size hb8; have hO7b := Kd.R_below hO7a hb8; have hO9b := Kd.R_below hO9a hb8; have n3 := (hb8.cell (p := ⟨w7.heap.size, 3, none⟩) hszn).trans hnew.1; have n4 := (hb8.cell (p := ⟨w7.heap.size, 4, none⟩) hszn).trans hnew.2; have hszm := Nat.lt_of_lt_of_le hszn hb8.size; replace x0 := (hb8.cell (Nat.lt_of_lt_of_le hx0 hbA.size)).trans x0) | (go_at_call 51; refine (has_c A2 c2 l2 s _ (Kd.C_below HR2.out hB8) HC2.out).mono ?_; rintro e w9 ⟨rfl, hb9⟩; rw [hin]; have hB9 := below_weaken hB8 hB8.size hb9; have hO7' := Kd.R_below hO7b hb9; have hO9' := Kd.R_below hO9b hb9; have m3 := (hb9.cell (p := ⟨w7.heap.size, 3, none⟩) hszm).trans n3; have m4 := (hb9.cell (p := ⟨w7.heap.size, 4, none⟩) hszm).trans n4; clear n3 n4; replace x0 := (hb9.cell (Nat.lt_of_lt_of_le (Nat.lt_of_lt_of_le hx0 hbA.size) hb8.size)).trans x0; have m0 := (hB9.cell (World.block_lt_of_cell? w _ Z.out)).trans Z.out) | fail)
                              go_quiet (fail)
                              go_wp2_with fail
                              go_roundw
                              case rel => exact ⟨i + 1, by simp, hlt, ⟨by rw [HF.out]; exact Kd.R_drewN hO7' _⟩, ⟨Kd.R_drewN hO9' _⟩, ⟨pw_below_drewN hB9 _⟩⟩
                              case measure => simp [intOf]; omega
                            · have hne : ¬ m.toList = n.f3.toList := fun h => he (toList_inj h)
                              have hq1 : (m.toList == n.f3.toList) = false := beq_eq_false_iff_ne.2 hne
                              have hres : ∀ b, n.f4 = b → restB l0 l1 s = !b := fun b hb => by
                                unfold restB
                                rw [hh, decide_eq_false (fun h => he (HEX0.out.trans (h.trans HEX.out.symm))), ← HKP.out, hb]
                                rfl
                              cases hk : n.f4 with
                              | true =>
                                have HF := skip (hres true hk)
                                have HK := Aside0.mk hk
                                clear hk hres
                                go_wp2_with (first | (go_at_call_of 52 (Value.slice (some B) l1.length c1); refine (find_c (some B) c1 l1 s _ (Kd.C_below HR1.out HB.out) HC1.out (by omega)).mono ?_; rintro e w7 ⟨rfl, hb7⟩; replace y0 := (hb7.cell hy0).trans y0; replace y1 := (hb7.cell hy1).trans y1; replace y2 := (hb7.cell hy2).trans y2; replace y3 := (hb7.cell hy3).trans y3; replace y4 := (hb7.cell hy4).trans y4; have hBa := below_alloc (below_weaken HB.out HB.out.size hb7) (.cells #[Value.string n.f0, Value.slice B1 n.f1.length d1, Value.slice B2 n.f2.length d2, Value.string n.f3, Value.bool n.f4] 32); have hbA := below_alloc hb7 (.cells #[Value.string n.f0, Value.slice B1 n.f1.length d1, Value.slice B2 n.f2.length d2, Value.string n.f3, Value.bool n.f4] 32); replace x0 := (hbA.cell hx0).trans x0; have hO7a := Kd.R_alloc (Kd.R_below HO7.out hb7) (.cells #[Value.string n.f0, Value.slice B1 n.f1.length d1, Value.slice B2 n.f2.length d2, Value.string n.f3, Value.bool n.f4] 32); have hO9a := Kd.R_alloc (Kd.R_below HO9.out hb7) (.cells #[Value.string n.f0, Value.slice B1 n.f1.length d1, Value.slice B2 n.f2.length d2, Value.string n.f3, Value.bool n.f4] 32); have hnew := cell_new34 w7 (s := Value.string n.f0) (a := Value.slice B1 n.f1.length d1) (b := Value.slice B2 n.f2.length d2) (c := Value.string n.f3) (d := Value.bool n.f4); have hszn : w7.heap.size < (w7.alloc (.cells #[Value.string n.f0, Value.slice B1 n.f1.length d1, Value.slice B2 n.f2.length d2, Value.string n.f3, Value.bool n.f4] 32)).heap.size := blk_lt (blk_new _ _)) | (go_at_call_of 52 (Value.slice (some E) l0.length c0); refine (find_c (some E) c0 l0 s _ (Kd.C_below HR0.out hBa) HC0.out (by omega)).mono ?_; rintro e w8 ⟨rfl, hb8⟩; have hB8 := below_weaken hBa hBa.size hb8; have hO7b := Kd.R_below hO7a hb8; have hO9b := Kd.R_below hO9a hb8; have n3 := (hb8.cell (p := ⟨w7.heap.size, 3, none⟩) hszn).trans hnew.1; have n4 := (hb8.cell (p := ⟨w7.heap.size, 4, none⟩) hszn).trans hnew.2; have hszm := Nat.lt_of_lt_of_le hszn hb8.size; replace x0 := (hb8.cell (Nat.lt_of_lt_of_le hx0 hbA.size)).trans x0) | (go_at_call 51; refine (has_c A2 c2 l2 s _ (Kd.C_below HR2.out hB8) HC2.out).mono ?_; rintro e w9 ⟨rfl, hb9⟩; rw [hin]; have hB9 := below_weaken hB8 hB8.size hb9; have hO7' := Kd.R_below hO7b hb9; have hO9' := Kd.R_below hO9b hb9; have m3 := (hb9.cell (p := ⟨w7.heap.size, 3, none⟩) hszm).trans n3; have m4 := (hb9.cell (p := ⟨w7.heap.size, 4, none⟩) hszm).trans n4; clear n3 n4; replace x0 := (hb9.cell (Nat.lt_of_lt_of_le (Nat.lt_of_lt_of_le hx0 hbA.size) hb8.size)).trans x0; have m0 := (hB9.cell (World.block_lt_of_cell? w _ Z.out)).trans Z.out; rw [HK.out] at m4) | fail)
                                go_quiet (fail)
                                go_wp2_with fail
                                go_roundw
                                case rel => exact ⟨i + 1, by simp, hlt, ⟨by rw [HF.out]; exact Kd.R_drewN hO7' _⟩, ⟨Kd.R_drewN hO9' _⟩, ⟨pw_below_drewN hB9 _⟩⟩
                                case measure => simp [intOf]; omega
                              | false =>
                                have HF := Aside0.mk (fm_some hlt (by rw [← HS.out]; exact start_re (old := l0) (new := l1) hin (hres false hk)))
                                have HK := Aside0.mk hk
                                clear hk hres
                                go_wp2_with (first | (go_at_call_of 52 (Value.slice (some B) l1.length c1); refine (find_c (some B) c1 l1 s _ (Kd.C_below HR1.out HB.out) HC1.out (by omega)).mono ?_; rintro e w7 ⟨rfl, hb7⟩; replace y0 := (hb7.cell hy0).trans y0; replace y1 := (hb7.cell hy1).trans y1; replace y2 := (hb7.cell hy2).trans y2; replace y3 := (hb7.cell hy3).trans y3; replace y4 := (hb7.cell hy4).trans y4; have hBa := below_alloc (below_weaken HB.out HB.out.size hb7) (.cells #[Value.string n.f0, Value.slice B1 n.f1.length d1, Value.slice B2 n.f2.length d2, Value.string n.f3, Value.bool n.f4] 32); have hbA := below_alloc hb7 (.cells #[Value.string n.f0, Value.slice B1 n.f1.length d1, Value.slice B2 n.f2.length d2, Value.string n.f3, Value.bool n.f4] 32); replace x0 := (hbA.cell hx0).trans x0; have hO7a := Kd.R_alloc (Kd.R_below HO7.out hb7) (.cells #[Value.string n.f0, Value.slice B1 n.f1.length d1, Value.slice B2 n.f2.length d2, Value.string n.f3, Value.bool n.f4] 32); have hO9a := Kd.R_alloc (Kd.R_below HO9.out hb7) (.cells #[Value.string n.f0, Value.slice B1 n.f1.length d1, Value.slice B2 n.f2.length d2, Value.string n.f3, Value.bool n.f4] 32); have hnew := cell_new34 w7 (s := Value.string n.f0) (a := Value.slice B1 n.f1.length d1) (b := Value.slice B2 n.f2.length d2) (c := Value.string n.f3) (d := Value.bool n.f4); have hszn : w7.heap.size < (w7.alloc (.cells #[Value.string n.f0, Value.slice B1 n.f1.length d1, Value.slice B2 n.f2.length d2, Value.string n.f3, Value.bool n.f4] 32)).heap.size := blk_lt (blk_new _ _)) | (go_at_call_of 52 (Value.slice (some E) l0.length c0); refine (find_c (some E) c0 l0 s _ (Kd.C_below HR0.out hBa) HC0.out (by omega)).mono ?_; rintro e w8 ⟨rfl, hb8⟩; have hB8 := below_weaken hBa hBa.size hb8; have hO7b := Kd.R_below hO7a hb8; have hO9b := Kd.R_below hO9a hb8; have n3 := (hb8.cell (p := ⟨w7.heap.size, 3, none⟩) hszn).trans hnew.1; have n4 := (hb8.cell (p := ⟨w7.heap.size, 4, none⟩) hszn).trans hnew.2; have hszm := Nat.lt_of_lt_of_le hszn hb8.size; replace x0 := (hb8.cell (Nat.lt_of_lt_of_le hx0 hbA.size)).trans x0) | (go_at_call 51; refine (has_c A2 c2 l2 s _ (Kd.C_below HR2.out hB8) HC2.out).mono ?_; rintro e w9 ⟨rfl, hb9⟩; rw [hin]; have hB9 := below_weaken hB8 hB8.size hb9; have hO7' := Kd.R_below hO7b hb9; have hO9' := Kd.R_below hO9b hb9; have m3 := (hb9.cell (p := ⟨w7.heap.size, 3, none⟩) hszm).trans n3; have m4 := (hb9.cell (p := ⟨w7.heap.size, 4, none⟩) hszm).trans n4; clear n3 n4; replace x0 := (hb9.cell (Nat.lt_of_lt_of_le (Nat.lt_of_lt_of_le hx0 hbA.size) hb8.size)).trans x0; have m0 := (hB9.cell (World.block_lt_of_cell? w _ Z.out)).trans Z.out; rw [HK.out] at m4) | fail)
                                go_quiet (fail)
                                have hO7q := Kd.R_drewN hO7' nq
                                have hO9q := Kd.R_drewN hO9' nq
                                have hB9q := pw_below_drewN hB9 nq
                                have x0q : (w9.drewN nq).cell? (ad.add i) = some (.string s) := x0
                                go_wp2_with (first | ((with_reducible refine gate_builtin (b := .append) (xs := #[.tmp 164, .tmp 170]) rfl ?_); at_builtin; refine Kd.R_append k55 (w0 := w) w.heap.size rfl (.tmp 164) (.tmp 170) 51 55 (.agg #[(.int .i64 0), (.string ⟨#[]⟩)]) 24 rfl Try.underlying51 info55 rfl (by decide) (by omega) u7 P (⟨3, s⟩ : S55) [.int .i64 3, .string s] (fun _ => True) (fun _ => False) rfl rfl ?aP (fun _ hk => hk.elim) (fun _ _ => trivial) hO7q hB9q hB9q.size ?aL ?_; (case aP => exact k55_mkM _ _ _ (⟨3, s⟩ : S55)); (case aL => omega); intro v1 wz hoz hbz hgz hatz) | fail)
                                go_roundw
                                case rel => exact ⟨i + 1, by simp, hlt, ⟨by rw [HF.out, ← List.append_assoc, ← HP.out]; exact hoz⟩, ⟨Kd.R_over' hO9q (Kd.R_typed hO7q) (by decide) hgz⟩, ⟨hbz⟩⟩
                                case measure => simp [intOf]; omega
                      · have hie : i = (startL l1).length := by omega
                        subst hie
                        rw [List.take_length] at HO7
                        obtain ⟨A7, c7, hv7⟩ := Kd.R_slice HO7.out
                        subst hv7
                        go_wp2_with fail
                        go_ret
                        exact ⟨_, rfl, HO7.out, HB.out⟩
              | succ c =>
                obtain rfl : q = (c : Int) := by omega
                clear hq
                have hcl : c < (startL l0).length := by omega
                have hrs := rev_step hcl
                rw [hrs] at HA
                clear hrs
                have hsr := Kd.R_reads' HO8.out
                obtain ⟨ad, hA, x0⟩ := Kd.at_string hsr.2.2 (c : Int) (by omega) (by omega)
                cases hA
                rw [rdOf_nat _ _ _ hcl] at x0
                obtain ⟨u, hu0⟩ : ∃ u, u = (startL l0)[c] := ⟨_, rfl⟩
                rw [← hu0] at x0 HA
                simp only [Int.toNat_natCast] at x0
                clear hu0 hsr
                have hw2 : IntKind.i64.wrap ((c : Int) - 1) = (c : Int) - 1 := IntWalk.i64_in _ ⟨by omega, by omega⟩
                go_wp2_with (first | ((with_reducible refine gate_builtin (b := .append) (xs := #[.tmp 70, .tmp 75]) rfl ?_); at_builtin; refine Kd.R_append Kd.string (w0 := w) w.heap.size rfl (.tmp 70) (.tmp 75) 25 9 (.string ⟨#[]⟩) 16 rfl Try.underlying25 info9 rfl (by decide) (by omega) u10 st u [.string u] (fun k => some k ≠ (Value.slice (some ad) (startL l0).length c8).ownBlock) (fun _ => False) rfl rfl ?aP (fun _ hk => hk.elim) ?aF HO9.out HB.out HB.out.size ?aL ?_; (case aP => exact rfl); (case aF => exact (fun k hk e => absurd (Kd.R_lt HO8.out k e.symm) (by omega))); (case aL => omega); intro v1 w7 ho7 hb7 hg7 hat7) | fail)
                go_roundw
                case rel => exact ⟨c, st ++ [u], _, rfl, rfl, by omega, by simp; omega, ⟨by rw [List.append_assoc]; exact HA.out⟩, ⟨ho7⟩, ⟨Kd.R_grown2 HO8.out rfl hg7 (fun k hk => HO9.out.1 k hk)⟩, ⟨Kd.R_over' HO7.out (Kd.R_typed HO9.out) (by decide) hg7⟩, ⟨hb7⟩⟩
                case measure => simp [intOf]
          | succ c =>
            obtain rfl : q = (c : Int) := by omega
            clear hq
            have hcl : c < l0.length := by omega
            have hstp := stopA_step hcl
            rw [hstp] at HA
            clear hstp
            obtain ⟨ad, B1, d1, B2, d2, hA, x0, _, _, _, _, _, _, _, _⟩ := at_T32 HR0.out (c : Int) (by omega) (by omega)
            cases hA
            rw [rd_T32_nat l0 c hcl] at x0
            obtain ⟨u, hu0⟩ : ∃ u, u = l0[c].f0 := ⟨_, rfl⟩
            rw [← hu0] at x0 HA
            simp only [Int.toNat_natCast] at x0
            clear hu0
            replace x0 := (HB.out.cell (World.block_lt_of_cell? w _ x0)).trans x0
            have hw2 : IntKind.i64.wrap ((c : Int) - 1) = (c : Int) - 1 := IntWalk.i64_in _ ⟨by omega, by omega⟩
            have hblk := World.block_lt_of_cell? wr _ x0
            cases hin : decide (u ∈ startL l0) with
            | true =>
              rw [hin] at HA
              go_wp2_with (first | (go_at_call 51; refine (has_c A8 c8 (startL l0) u _ (Kd.R_reads' HO8.out).2.2 (Kd.R_reads' HO8.out).2.1).mono ?_; rintro e w7 ⟨rfl, hb7⟩; rw [hin]) | fail)
              go_roundw
              case rel => exact ⟨c, acc, _, rfl, rfl, by omega, by omega, ⟨by simpa using HA.out⟩, ⟨Kd.R_below HO9.out hb7⟩, ⟨Kd.R_below HO8.out hb7⟩, ⟨Kd.R_below HO7.out hb7⟩, ⟨below_weaken HB.out HB.out.size hb7⟩⟩
              case measure => simp [intOf]
            | false =>
              rw [hin] at HA
              go_wp2_with (first | (go_at_call 51; refine (has_c A8 c8 (startL l0) u _ (Kd.R_reads' HO8.out).2.2 (Kd.R_reads' HO8.out).2.1).mono ?_; rintro e w7 ⟨rfl, hb7⟩; rw [hin]; replace x0 := (hb7.cell hblk).trans x0; have ho9 := Kd.R_below HO9.out hb7; have ho8 := Kd.R_below HO8.out hb7; have ho7 := Kd.R_below HO7.out hb7; have hB7 := below_weaken HB.out HB.out.size hb7) | ((with_reducible refine gate_builtin (b := .append) (xs := #[.tmp 55, .tmp 61]) rfl ?_); at_builtin; refine Kd.R_append Kd.string (w0 := w) w.heap.size rfl (.tmp 55) (.tmp 61) 25 9 (.string ⟨#[]⟩) 16 rfl Try.underlying25 info9 rfl (by decide) (by omega) u10 acc u [.string u] (fun k => some k ≠ (Value.slice A8 (startL l0).length c8).ownBlock) (fun _ => False) rfl rfl ?aP (fun _ hk => hk.elim) ?aF ho9 hB7 hB7.size ?aL ?_; (case aP => exact rfl); (case aF => exact (fun k hk e => absurd (Kd.R_lt ho8 k e.symm) (by omega))); (case aL => omega); intro v1 w8 ho91 hb8 hg8 hat8) | fail)
              go_roundw
              case rel => exact ⟨c, acc ++ [u], _, rfl, rfl, by omega, by simp; omega, ⟨by rw [List.append_assoc]; exact HA.out⟩, ⟨ho91⟩, ⟨Kd.R_grown2 ho8 rfl hg8 (fun k hk => ho9.1 k hk)⟩, ⟨Kd.R_over' ho7 (Kd.R_typed ho9) (by decide) hg8⟩, ⟨hb8⟩⟩
              case measure => simp [intOf]
      · have hd1 : decide ((2000 : Int) < (l2.length : Int)) = true := decide_eq_true (by omega)
        have hd2 : decide (2000 < l2.length) = true := decide_eq_true (by omega)
        have hp : planF l0 l1 l2 = [] := by unfold planF; rw [hok, hok1, decide_eq_false hl]; rfl
        rw [hp]
        go_enter Try.func36, Try.ntmps36
        go_wp2_with (first | ((with_reducible refine gate_dst (N := 19) rfl ?_); refine Kd.R_lit k55 (w0 := w) w.heap.size 55 ?hg (N := 19) ?hd (xs := ([] : List S55)) (inner := []) (ok := fun _ => True) (okp := fun _ => False) ?hr ?hp (fun _ hk => hk.elim) trivial (Below.refl _ _) (Nat.le_refl _) (by simp) ?_; (case hd => rfl); (case hg => rfl); (case hr => first | (go_simp; done) | (go_simp; rfl)); (case hp => exact (Reps.none _ _)); intro v7 wl ho7 hbl hgl hnewl) | (go_at_call_of 13 (Value.slice A0 l0.length c0); refine (spec_UnitsOk.calls A0 c0 l0 true _ (Kd.C_below HR0.out hbl) HC0.out hf).mono ?_; rintro e w1 ⟨rfl, hb⟩; replace ho7 := Kd.R_below ho7 hb; replace hb := below_weaken hbl hbl.size hb) | (go_at_call_of 13 (Value.slice A1 l1.length c1); refine (spec_UnitsOk.calls A1 c1 l1 true _ (Kd.C_below HR1.out hb) HC1.out hf1).mono ?_; rintro e w2 ⟨rfl, hb2⟩; replace ho7 := Kd.R_below ho7 hb2; replace hb2 := below_weaken hb hb.size hb2) | fail)
        go_ret
        exact ⟨_, rfl, ho7, hb2⟩
end Go.Proofs.Ytnjmhlhlmokjnaa.G
namespace Go.Proofs.Ytnjmhlhlmokjnaa.G
set_option linter.unusedVariables false
set_option linter.unusedSimpArgs false
section
variable {old new : List S32} {run : List ByteArray}
theorem planL_len : (planL old new run).length ≤ old.length + old.length + new.length := by
  have h1 := stopsL_len old
  have h2 := (startL_inv new).len
  have h3 := List.length_filterMap_le (stopAct new run) (stopsL old)
  have h4 := List.length_filterMap_le (startAct old new run) (startL new)
  unfold planL
  rw [List.length_append]
  omega
end
end Go.Proofs.Ytnjmhlhlmokjnaa.G
namespace Go.Proofs.Ytnjmhlhlmokjnaa.G
open Go.RowKit Go.Proofs.YtnjmhlhlmokjnaaW.PrintWords Go.Proofs.YtnjmhlhlmokjnaaW.PrintLast Go.Proofs.YtnjmhlhlmokjnaaW.PrintMore
set_option linter.unusedVariables false
set_option linter.unusedSimpArgs false
set_option maxHeartbeats 8000000 in
set_option maxRecDepth 100000 in
theorem laws_FnExactPlanUnits_walk (A0 : Option Addr) (c0 : Nat) (l0 : List S70) (A1 : Option Addr) (c1 : Nat) (l1 : List S70) (A2 : Option Addr) (c2 : Nat) (l2 : List ByteArray) (w : World) (hr0 : Kd.C k70 w A0 l0.length l0) (hc0 : l0.length ≤ c0) (hz0 : ∀ u ∈ l0, unitRaw u) (hr1 : Kd.C k70 w A1 l1.length l1) (hc1 : l1.length ≤ c1) (hz1 : ∀ u ∈ l1, unitRaw u) (hr2 : Kd.C Kd.string w A2 l2.length l2) (hc2 : l2.length ≤ c2) (hz2 : ∀ s ∈ l2, s.size ≤ 9223372036854775807) :
    Calls Try.prog 9 #[.slice A0 l0.length c0, .slice A1 l1.length c1, .slice A2 l2.length c2] w fun e w' => e = .returned (.bool true) ∧ Below w.heap.size w w' := by
  have hn0 : l0.length ≤ 9223372036854775807 := hr0.2.1
  have HR0 := Aside0.mk hr0
  have HC0 := Aside0.mk hc0
  clear hr0 hc0
  have hn1 : l1.length ≤ 9223372036854775807 := hr1.2.1
  have HR1 := Aside0.mk hr1
  have HC1 := Aside0.mk hc1
  clear hr1 hc1
  have hn2 : l2.length ≤ 9223372036854775807 := hr2.2.1
  have HR2 := Aside0.mk hr2
  have HC2 := Aside0.mk hc2
  clear hr2 hc2
  obtain ⟨q0, E0, m0, b0⟩ := szus_ev l0 hn0 hz0 1048576 (by omega) (by omega)
  have HE0 := Aside0.mk E0
  clear E0
  by_cases hq0 : q0 < 0
  · have hd0 : decide (q0 < 0) = true := decide_eq_true hq0
    clear b0 m0 hz0 hn0 hz1 hn1 hz2 hn2
    have HB := Aside0.mk (Below.refl w.heap.size w)
    go_enter Try.func9, Try.ntmps9
    go_wp2_with fail
    refine (szU_c HE0.out (Kd.C_below HR0.out HB.out) HC0.out).mono ?_
    rintro e w1 ⟨rfl, hb⟩
    replace HB := Aside0.mk (below_then HB.out HB.out.size hb)
    have HS0 := Aside0.mk (hb.size)
    clear hb
    go_wp2_with fail
    go_ret
    exact ⟨rfl, HB.out⟩
  obtain ⟨q1, E1, m1, b1⟩ := szus_ev l1 hn1 hz1 q0 (by omega) (by omega)
  have HE1 := Aside0.mk E1
  clear E1
  by_cases hq1 : q1 < 0
  · have hd1 : decide (q1 < 0) = true := decide_eq_true hq1
    have hd0 : decide (q0 < 0) = false := decide_eq_false hq0
    clear b0 m0 b1 m1 hz0 hn0 hz1 hn1 hz2 hn2
    have HB := Aside0.mk (Below.refl w.heap.size w)
    go_enter Try.func9, Try.ntmps9
    go_wp2_with fail
    refine (szU_c HE0.out (Kd.C_below HR0.out HB.out) HC0.out).mono ?_
    rintro e w1 ⟨rfl, hb⟩
    replace HB := Aside0.mk (below_then HB.out HB.out.size hb)
    have HS0 := Aside0.mk (hb.size)
    clear hb
    go_wp2_with fail
    refine (szU_c HE1.out (Kd.C_below HR1.out HB.out) HC1.out).mono ?_
    rintro e w2 ⟨rfl, hb⟩
    replace HB := Aside0.mk (below_then HB.out HB.out.size hb)
    have HS1 := Aside0.mk (hb.size)
    clear hb
    go_wp2_with fail
    go_ret
    exact ⟨rfl, HB.out⟩
  obtain ⟨q2, E2, m2, b2⟩ := szs_ev l2 hn2 hz2 q1 (by omega) (by omega)
  have HE2 := Aside0.mk E2
  clear E2
  by_cases hq2 : q2 < 0
  · have hd2 : decide (q2 < 0) = true := decide_eq_true hq2
    have hd0 : decide (q0 < 0) = false := decide_eq_false hq0
    have hd1 : decide (q1 < 0) = false := decide_eq_false hq1
    clear b0 m0 b1 m1 b2 m2 hz0 hn0 hz1 hn1 hz2 hn2
    have HB := Aside0.mk (Below.refl w.heap.size w)
    go_enter Try.func9, Try.ntmps9
    go_wp2_with fail
    refine (szU_c HE0.out (Kd.C_below HR0.out HB.out) HC0.out).mono ?_
    rintro e w1 ⟨rfl, hb⟩
    replace HB := Aside0.mk (below_then HB.out HB.out.size hb)
    have HS0 := Aside0.mk (hb.size)
    clear hb
    go_wp2_with fail
    refine (szU_c HE1.out (Kd.C_below HR1.out HB.out) HC1.out).mono ?_
    rintro e w2 ⟨rfl, hb⟩
    replace HB := Aside0.mk (below_then HB.out HB.out.size hb)
    have HS1 := Aside0.mk (hb.size)
    clear hb
    go_wp2_with fail
    refine (szS_c HE2.out (Kd.C_below HR2.out HB.out) HC2.out).mono ?_
    rintro e w3 ⟨rfl, hb⟩
    replace HB := Aside0.mk (below_then HB.out HB.out.size hb)
    have HS2 := Aside0.mk (hb.size)
    clear hb
    go_wp2_with fail
    go_ret
    exact ⟨rfl, HB.out⟩
  have hd0 : decide (q0 < 0) = false := decide_eq_false hq0
  have hd1 : decide (q1 < 0) = false := decide_eq_false hq1
  have hd2 : decide (q2 < 0) = false := decide_eq_false hq2
  have HU0 := Aside0.mk (lenOk_conv (l := l0) (by have := b0 (by omega); omega))
  have hl0 : l0.length ≤ 1048576 := by have := b0 (by omega); omega
  have hv0 : 0 ≤ q0 := by omega
  have HU1 := Aside0.mk (lenOk_conv (l := l1) (by have := b1 (by omega); omega))
  have hl1 : l1.length ≤ 1048576 := by have := b1 (by omega); omega
  have hv1 : 0 ≤ q1 := by omega
  have hl2 : l2.length ≤ 1048576 := by have := b2 (by omega); omega
  have hv2 : 0 ≤ q2 := by omega
  obtain ⟨us0, hus0⟩ : ∃ us, us = l0.map conv := ⟨_, rfl⟩
  rw [← hus0] at HU0
  have hlc0 : us0.length ≤ 1048576 := by rw [hus0, List.length_map]; exact hl0
  have HUS0 := Aside0.mk hus0
  clear hus0
  obtain ⟨us1, hus1⟩ : ∃ us, us = l1.map conv := ⟨_, rfl⟩
  rw [← hus1] at HU1
  have hlc1 : us1.length ≤ 1048576 := by rw [hus1, List.length_map]; exact hl1
  have HUS1 := Aside0.mk hus1
  clear hus1
  clear b0 hq0 hz0 hn0 m0 b1 hq1 hz1 hn1 m1 b2 hq2 hz2 hn2 m2
  obtain ⟨ans, ha⟩ : ∃ a, a = planF us0 us1 l2 := ⟨_, rfl⟩
  have HSP : Aside0 (spec_PlanUnits.f us0 us1 l2 = some ans) := ⟨by unfold spec_PlanUnits.f; rw [ha]⟩
  have HIM : Aside0 (impl_PlanUnits.f us0 us1 l2 = some ans) := ⟨by unfold impl_PlanUnits.f; rw [ha]⟩
  have hans : ans.length ≤ 1048576 := by
    rw [ha]
    unfold planF
    split
    · rename_i h
      simp only [Bool.and_eq_true] at h
      have h1 := (good_of_ok h.1.1).len
      have h2 := (good_of_ok h.1.2).len
      have h3 := planL_len (old := us0) (new := us1) (run := l2)
      omega
    · exact Nat.zero_le _
  clear ha
  have HB := Aside0.mk (Below.refl w.heap.size w)
  go_enter Try.func9, Try.ntmps9
  go_wp2_with fail
  refine (szU_c HE0.out (Kd.C_below HR0.out HB.out) HC0.out).mono ?_
  rintro e w1 ⟨rfl, hb⟩
  replace HB := Aside0.mk (below_then HB.out HB.out.size hb)
  have HS0 := Aside0.mk (hb.size)
  clear hb
  go_wp2_with fail
  refine (szU_c HE1.out (Kd.C_below HR1.out HB.out) HC1.out).mono ?_
  rintro e w2 ⟨rfl, hb⟩
  replace HB := Aside0.mk (below_then HB.out HB.out.size hb)
  have HS1 := Aside0.mk (hb.size)
  clear hb
  go_wp2_with fail
  refine (szS_c HE2.out (Kd.C_below HR2.out HB.out) HC2.out).mono ?_
  rintro e w3 ⟨rfl, hb⟩
  replace HB := Aside0.mk (below_then HB.out HB.out.size hb)
  have HS2 := Aside0.mk (hb.size)
  clear hb
  go_wp2_with fail
  refine (toU_c HUS0.out hl0 HU0.out (Kd.C_below HR0.out HB.out) HC0.out HB.out.size).mono ?_
  rintro e w4 ⟨At0, ct0, rfl, ho, hb⟩
  replace HB := Aside0.mk (below_then HB.out HB.out.size hb)
  have HS3 := Aside0.mk (hb.size)
  clear hb
  have Ht0 := Aside0.mk ho
  clear ho
  go_wp2_with fail
  refine (toU_c HUS1.out hl1 HU1.out (Kd.C_below HR1.out HB.out) HC1.out HB.out.size).mono ?_
  rintro e w5 ⟨At1, ct1, rfl, ho, hb⟩
  replace Ht0 := Aside0.mk (Kd.R_below Ht0.out hb)
  replace HB := Aside0.mk (below_then HB.out HB.out.size hb)
  have HS4 := Aside0.mk (hb.size)
  clear hb
  have Ht1 := Aside0.mk ho
  clear ho
  go_wp2_with fail
  refine (toS_c hl2 (Kd.C_below HR2.out HB.out) HC2.out HB.out.size).mono ?_
  rintro e w6 ⟨At2, ct2, rfl, ho, hb⟩
  replace Ht0 := Aside0.mk (Kd.R_below Ht0.out hb)
  replace Ht1 := Aside0.mk (Kd.R_below Ht1.out hb)
  replace HB := Aside0.mk (below_then HB.out HB.out.size hb)
  have HS5 := Aside0.mk (hb.size)
  clear hb
  have Ht2 := Aside0.mk ho
  clear ho
  go_wp2_with fail
  refine (spec_PlanUnits.calls _ _ _ _ _ _ _ _ _ ans _ (Kd.R_reads' Ht0.out).2.2 (Kd.R_reads' Ht0.out).2.1 (Kd.R_reads' Ht1.out).2.2 (Kd.R_reads' Ht1.out).2.1 (Kd.R_reads' Ht2.out).2.2 (Kd.R_reads' Ht2.out).2.1 HSP.out).mono ?_
  rintro e w7 ⟨vwa, rfl, ho, hb⟩
  obtain ⟨Awa, cwa, rfl⟩ := Kd.R_slice ho
  replace ho := R_span ho HB.out.size
  replace Ht0 := Aside0.mk (Kd.R_below Ht0.out hb)
  replace Ht1 := Aside0.mk (Kd.R_below Ht1.out hb)
  replace Ht2 := Aside0.mk (Kd.R_below Ht2.out hb)
  replace HB := Aside0.mk (below_then HB.out HB.out.size hb)
  have HS6 := Aside0.mk (hb.size)
  clear hb
  have Hwa := Aside0.mk ho
  clear ho
  clear Ht0
  clear Ht1
  clear Ht2
  go_wp2_with fail
  refine (toU_c HUS0.out hl0 HU0.out (Kd.C_below HR0.out HB.out) HC0.out HB.out.size).mono ?_
  rintro e w8 ⟨Ax0, cx0, rfl, ho, hb⟩
  replace Hwa := Aside0.mk (Kd.R_below Hwa.out hb)
  replace HB := Aside0.mk (below_then HB.out HB.out.size hb)
  have HS7 := Aside0.mk (hb.size)
  clear hb
  have Hx0 := Aside0.mk ho
  clear ho
  go_wp2_with fail
  refine (toU_c HUS1.out hl1 HU1.out (Kd.C_below HR1.out HB.out) HC1.out HB.out.size).mono ?_
  rintro e w9 ⟨Ax1, cx1, rfl, ho, hb⟩
  replace Hwa := Aside0.mk (Kd.R_below Hwa.out hb)
  replace Hx0 := Aside0.mk (Kd.R_below Hx0.out hb)
  replace HB := Aside0.mk (below_then HB.out HB.out.size hb)
  have HS8 := Aside0.mk (hb.size)
  clear hb
  have Hx1 := Aside0.mk ho
  clear ho
  go_wp2_with fail
  refine (toS_c hl2 (Kd.C_below HR2.out HB.out) HC2.out HB.out.size).mono ?_
  rintro e w10 ⟨Ax2, cx2, rfl, ho, hb⟩
  replace Hwa := Aside0.mk (Kd.R_below Hwa.out hb)
  replace Hx0 := Aside0.mk (Kd.R_below Hx0.out hb)
  replace Hx1 := Aside0.mk (Kd.R_below Hx1.out hb)
  replace HB := Aside0.mk (below_then HB.out HB.out.size hb)
  have HS9 := Aside0.mk (hb.size)
  clear hb
  have Hx2 := Aside0.mk ho
  clear ho
  go_wp2_with fail
  refine (impl_PlanUnits.calls _ _ _ _ _ _ _ _ _ ans _ (Kd.R_reads' Hx0.out).2.2 (Kd.R_reads' Hx0.out).2.1 (Kd.R_reads' Hx1.out).2.2 (Kd.R_reads' Hx1.out).2.1 (Kd.R_reads' Hx2.out).2.2 (Kd.R_reads' Hx2.out).2.1 HIM.out).mono ?_
  rintro e w11 ⟨vga, rfl, ho, hb⟩
  obtain ⟨Aga, cga, rfl⟩ := Kd.R_slice ho
  replace ho := R_span ho HB.out.size
  replace Hwa := Aside0.mk (Kd.R_below Hwa.out hb)
  replace Hx0 := Aside0.mk (Kd.R_below Hx0.out hb)
  replace Hx1 := Aside0.mk (Kd.R_below Hx1.out hb)
  replace Hx2 := Aside0.mk (Kd.R_below Hx2.out hb)
  replace HB := Aside0.mk (below_then HB.out HB.out.size hb)
  have HS10 := Aside0.mk (hb.size)
  clear hb
  have Hga := Aside0.mk ho
  clear ho
  go_wp2_with fail
  refine (eqA_c (Kd.R_reads' Hga.out).2.2 (Kd.R_reads' Hga.out).2.1 (Kd.R_reads' Hwa.out).2.2 (Kd.R_reads' Hwa.out).2.1).mono ?_
  rintro e w12 ⟨rfl, hb⟩
  replace Hwa := Aside0.mk (Kd.R_below Hwa.out hb)
  replace Hx0 := Aside0.mk (Kd.R_below Hx0.out hb)
  replace Hx1 := Aside0.mk (Kd.R_below Hx1.out hb)
  replace Hx2 := Aside0.mk (Kd.R_below Hx2.out hb)
  replace Hga := Aside0.mk (Kd.R_below Hga.out hb)
  replace HB := Aside0.mk (below_then HB.out HB.out.size hb)
  have HS11 := Aside0.mk (hb.size)
  clear hb
  go_wp2_with fail
  refine (toU_c HUS0.out hl0 HU0.out (Kd.C_below HR0.out HB.out) HC0.out HB.out.size).mono ?_
  rintro e w13 ⟨At0, ct0, rfl, ho, hb⟩
  replace Hwa := Aside0.mk (Kd.R_below Hwa.out hb)
  replace Hx0 := Aside0.mk (Kd.R_below Hx0.out hb)
  replace Hx1 := Aside0.mk (Kd.R_below Hx1.out hb)
  replace Hx2 := Aside0.mk (Kd.R_below Hx2.out hb)
  replace Hga := Aside0.mk (Kd.R_below Hga.out hb)
  replace HB := Aside0.mk (below_then HB.out HB.out.size hb)
  have HS12 := Aside0.mk (hb.size)
  clear hb
  have Ht0 := Aside0.mk ho
  clear ho
  go_wp2_with fail
  refine (eqU_c hlc0 HU0.out (Kd.R_reads' Hx0.out).2.2 (Kd.R_reads' Hx0.out).2.1 (Kd.R_reads' Ht0.out).2.2 (Kd.R_reads' Ht0.out).2.1).mono ?_
  rintro e w14 ⟨rfl, hb⟩
  replace Hwa := Aside0.mk (Kd.R_below Hwa.out hb)
  replace Hx0 := Aside0.mk (Kd.R_below Hx0.out hb)
  replace Hx1 := Aside0.mk (Kd.R_below Hx1.out hb)
  replace Hx2 := Aside0.mk (Kd.R_below Hx2.out hb)
  replace Hga := Aside0.mk (Kd.R_below Hga.out hb)
  replace Ht0 := Aside0.mk (Kd.R_below Ht0.out hb)
  replace HB := Aside0.mk (below_then HB.out HB.out.size hb)
  have HS13 := Aside0.mk (hb.size)
  clear hb
  clear Ht0
  go_wp2_with fail
  refine (toU_c HUS1.out hl1 HU1.out (Kd.C_below HR1.out HB.out) HC1.out HB.out.size).mono ?_
  rintro e w15 ⟨At1, ct1, rfl, ho, hb⟩
  replace Hwa := Aside0.mk (Kd.R_below Hwa.out hb)
  replace Hx0 := Aside0.mk (Kd.R_below Hx0.out hb)
  replace Hx1 := Aside0.mk (Kd.R_below Hx1.out hb)
  replace Hx2 := Aside0.mk (Kd.R_below Hx2.out hb)
  replace Hga := Aside0.mk (Kd.R_below Hga.out hb)
  replace HB := Aside0.mk (below_then HB.out HB.out.size hb)
  have HS14 := Aside0.mk (hb.size)
  clear hb
  have Ht1 := Aside0.mk ho
  clear ho
  go_wp2_with fail
  refine (eqU_c hlc1 HU1.out (Kd.R_reads' Hx1.out).2.2 (Kd.R_reads' Hx1.out).2.1 (Kd.R_reads' Ht1.out).2.2 (Kd.R_reads' Ht1.out).2.1).mono ?_
  rintro e w16 ⟨rfl, hb⟩
  replace Hwa := Aside0.mk (Kd.R_below Hwa.out hb)
  replace Hx0 := Aside0.mk (Kd.R_below Hx0.out hb)
  replace Hx1 := Aside0.mk (Kd.R_below Hx1.out hb)
  replace Hx2 := Aside0.mk (Kd.R_below Hx2.out hb)
  replace Hga := Aside0.mk (Kd.R_below Hga.out hb)
  replace Ht1 := Aside0.mk (Kd.R_below Ht1.out hb)
  replace HB := Aside0.mk (below_then HB.out HB.out.size hb)
  have HS15 := Aside0.mk (hb.size)
  clear hb
  clear Ht1
  go_wp2_with fail
  refine (toS_c hl2 (Kd.C_below HR2.out HB.out) HC2.out HB.out.size).mono ?_
  rintro e w17 ⟨At2, ct2, rfl, ho, hb⟩
  replace Hwa := Aside0.mk (Kd.R_below Hwa.out hb)
  replace Hx0 := Aside0.mk (Kd.R_below Hx0.out hb)
  replace Hx1 := Aside0.mk (Kd.R_below Hx1.out hb)
  replace Hx2 := Aside0.mk (Kd.R_below Hx2.out hb)
  replace Hga := Aside0.mk (Kd.R_below Hga.out hb)
  replace HB := Aside0.mk (below_then HB.out HB.out.size hb)
  have HS16 := Aside0.mk (hb.size)
  clear hb
  have Ht2 := Aside0.mk ho
  clear ho
  go_wp2_with fail
  refine (eqS_c (Kd.R_reads' Hx2.out).2.2 (Kd.R_reads' Hx2.out).2.1 (Kd.R_reads' Ht2.out).2.2 (Kd.R_reads' Ht2.out).2.1).mono ?_
  rintro e w18 ⟨rfl, hb⟩
  replace hb := drawn_b hb
  replace Hwa := Aside0.mk (Kd.R_below Hwa.out hb)
  replace Hx0 := Aside0.mk (Kd.R_below Hx0.out hb)
  replace Hx1 := Aside0.mk (Kd.R_below Hx1.out hb)
  replace Hx2 := Aside0.mk (Kd.R_below Hx2.out hb)
  replace Hga := Aside0.mk (Kd.R_below Hga.out hb)
  replace Ht2 := Aside0.mk (Kd.R_below Ht2.out hb)
  replace HB := Aside0.mk (below_then HB.out HB.out.size hb)
  have HS17 := Aside0.mk (hb.size)
  clear hb
  clear Ht2
  go_wp2_with fail
  refine (markUnits_c _ _ 1 _ _ _ Hx0.out hlc0 HU0.out (by omega) (by omega)).mono ?_
  rintro e w19 ⟨⟨k0, rfl, hk0, hkb0⟩, hm⟩
  replace Hwa := Aside0.mk (R_other Hwa.out hm.other (fun k hk hk' => by have hx_ := hk'; have := HS0.out; have := HS1.out; have := HS2.out; have := HS3.out; have := HS4.out; have := HS5.out; have := HS6.out; have := HS7.out; have := HS8.out; have := HS9.out; have := HS10.out; have := HS11.out; have := HS12.out; have := HS13.out; have := HS14.out; have := HS15.out; have := HS16.out; have := HS17.out; omega))
  replace Hx1 := Aside0.mk (R_other Hx1.out hm.other (fun k hk hk' => by have hx_ := hk'; have := HS0.out; have := HS1.out; have := HS2.out; have := HS3.out; have := HS4.out; have := HS5.out; have := HS6.out; have := HS7.out; have := HS8.out; have := HS9.out; have := HS10.out; have := HS11.out; have := HS12.out; have := HS13.out; have := HS14.out; have := HS15.out; have := HS16.out; have := HS17.out; omega))
  replace Hx2 := Aside0.mk (R_other Hx2.out hm.other (fun k hk hk' => by have hx_ := hk'; have := HS0.out; have := HS1.out; have := HS2.out; have := HS3.out; have := HS4.out; have := HS5.out; have := HS6.out; have := HS7.out; have := HS8.out; have := HS9.out; have := HS10.out; have := HS11.out; have := HS12.out; have := HS13.out; have := HS14.out; have := HS15.out; have := HS16.out; have := HS17.out; omega))
  replace Hga := Aside0.mk (R_other Hga.out hm.other (fun k hk hk' => by have hx_ := hk'; have := HS0.out; have := HS1.out; have := HS2.out; have := HS3.out; have := HS4.out; have := HS5.out; have := HS6.out; have := HS7.out; have := HS8.out; have := HS9.out; have := HS10.out; have := HS11.out; have := HS12.out; have := HS13.out; have := HS14.out; have := HS15.out; have := HS16.out; have := HS17.out; omega))
  replace HB := Aside0.mk (hm.to_below HB.out HB.out.size (fun k hk => by have := HS0.out; have := HS1.out; have := HS2.out; have := HS3.out; have := HS4.out; have := HS5.out; have := HS6.out; have := HS7.out; have := HS8.out; have := HS9.out; have := HS10.out; have := HS11.out; have := HS12.out; have := HS13.out; have := HS14.out; have := HS15.out; have := HS16.out; have := HS17.out; omega))
  have HS18 := Aside0.mk (hm.size)
  clear hm
  clear Hx0
  go_wp2_with fail
  refine (markUnits_c _ _ k0 _ _ _ Hx1.out hlc1 HU1.out (by omega) (by omega)).mono ?_
  rintro e w20 ⟨⟨k1, rfl, hk1, hkb1⟩, hm⟩
  replace Hwa := Aside0.mk (R_other Hwa.out hm.other (fun k hk hk' => by have hx_ := hk'; have := HS0.out; have := HS1.out; have := HS2.out; have := HS3.out; have := HS4.out; have := HS5.out; have := HS6.out; have := HS7.out; have := HS8.out; have := HS9.out; have := HS10.out; have := HS11.out; have := HS12.out; have := HS13.out; have := HS14.out; have := HS15.out; have := HS16.out; have := HS17.out; have := HS18.out; omega))
  replace Hx2 := Aside0.mk (R_other Hx2.out hm.other (fun k hk hk' => by have hx_ := hk'; have := HS0.out; have := HS1.out; have := HS2.out; have := HS3.out; have := HS4.out; have := HS5.out; have := HS6.out; have := HS7.out; have := HS8.out; have := HS9.out; have := HS10.out; have := HS11.out; have := HS12.out; have := HS13.out; have := HS14.out; have := HS15.out; have := HS16.out; have := HS17.out; have := HS18.out; omega))
  replace Hga := Aside0.mk (R_other Hga.out hm.other (fun k hk hk' => by have hx_ := hk'; have := HS0.out; have := HS1.out; have := HS2.out; have := HS3.out; have := HS4.out; have := HS5.out; have := HS6.out; have := HS7.out; have := HS8.out; have := HS9.out; have := HS10.out; have := HS11.out; have := HS12.out; have := HS13.out; have := HS14.out; have := HS15.out; have := HS16.out; have := HS17.out; have := HS18.out; omega))
  replace HB := Aside0.mk (hm.to_below HB.out HB.out.size (fun k hk => by have := HS0.out; have := HS1.out; have := HS2.out; have := HS3.out; have := HS4.out; have := HS5.out; have := HS6.out; have := HS7.out; have := HS8.out; have := HS9.out; have := HS10.out; have := HS11.out; have := HS12.out; have := HS13.out; have := HS14.out; have := HS15.out; have := HS16.out; have := HS17.out; have := HS18.out; omega))
  have HS19 := Aside0.mk (hm.size)
  clear hm
  clear Hx1
  go_wp2_with fail
  refine (markS_c k1 HB.out Hx2.out hl2 (by omega) (by omega)).mono ?_
  rintro e w21 ⟨rfl, ⟨_, _, _⟩, hb, hm⟩
  replace Hwa := Aside0.mk (R_other Hwa.out hm.2 (fun k hk hk' => by have hx_ := Hx2.out.1 k hk'.symm; have := HS0.out; have := HS1.out; have := HS2.out; have := HS3.out; have := HS4.out; have := HS5.out; have := HS6.out; have := HS7.out; have := HS8.out; have := HS9.out; have := HS10.out; have := HS11.out; have := HS12.out; have := HS13.out; have := HS14.out; have := HS15.out; have := HS16.out; have := HS17.out; have := HS18.out; have := HS19.out; omega))
  replace Hga := Aside0.mk (R_other Hga.out hm.2 (fun k hk hk' => by have hx_ := Hx2.out.1 k hk'.symm; have := HS0.out; have := HS1.out; have := HS2.out; have := HS3.out; have := HS4.out; have := HS5.out; have := HS6.out; have := HS7.out; have := HS8.out; have := HS9.out; have := HS10.out; have := HS11.out; have := HS12.out; have := HS13.out; have := HS14.out; have := HS15.out; have := HS16.out; have := HS17.out; have := HS18.out; have := HS19.out; omega))
  replace HB := Aside0.mk hb
  have HS20 := Aside0.mk (hm.1)
  clear hm hb
  clear Hx2
  go_wp2_with fail
  refine (eqA_c (Kd.R_reads' Hga.out).2.2 (Kd.R_reads' Hga.out).2.1 (Kd.R_reads' Hwa.out).2.2 (Kd.R_reads' Hwa.out).2.1).mono ?_
  rintro e w22 ⟨rfl, hb⟩
  replace Hwa := Aside0.mk (Kd.R_below Hwa.out hb)
  replace Hga := Aside0.mk (Kd.R_below Hga.out hb)
  replace HB := Aside0.mk (below_then HB.out HB.out.size hb)
  have HS21 := Aside0.mk (hb.size)
  clear hb
  go_wp2_with fail
  refine (markA_c 1 HB.out Hga.out hans (by omega) (by omega)).mono ?_
  rintro e w23 ⟨rfl, ⟨gm, hmk, ho⟩, hb, hm⟩
  replace Hwa := Aside0.mk (R_other Hwa.out hm.2 (fun k hk hk' => by have hx_ := Hga.out.1 k hk'.symm; have := HS0.out; have := HS1.out; have := HS2.out; have := HS3.out; have := HS4.out; have := HS5.out; have := HS6.out; have := HS7.out; have := HS8.out; have := HS9.out; have := HS10.out; have := HS11.out; have := HS12.out; have := HS13.out; have := HS14.out; have := HS15.out; have := HS16.out; have := HS17.out; have := HS18.out; have := HS19.out; have := HS20.out; have := HS21.out; omega))
  replace HB := Aside0.mk hb
  have HS22 := Aside0.mk (hm.1)
  have HMK := Aside0.mk hmk
  replace Hga := Aside0.mk ho
  clear hm hb ho hmk
  go_wp2_with fail
  refine (heldA_c 1 HMK.out hans (by omega) (by omega) Hga.out rfl).mono ?_
  rintro e w24 ⟨rfl, hb⟩
  replace Hwa := Aside0.mk (Kd.R_below Hwa.out hb)
  replace Hga := Aside0.mk (Kd.R_below Hga.out hb)
  replace HB := Aside0.mk (below_then HB.out HB.out.size hb)
  have HS23 := Aside0.mk (hb.size)
  clear hb
  go_wp2_with fail
  refine (toU_c HUS0.out hl0 HU0.out (Kd.C_below HR0.out HB.out) HC0.out HB.out.size).mono ?_
  rintro e w25 ⟨At0, ct0, rfl, ho, hb⟩
  replace Hwa := Aside0.mk (Kd.R_below Hwa.out hb)
  replace Hga := Aside0.mk (Kd.R_below Hga.out hb)
  replace HB := Aside0.mk (below_then HB.out HB.out.size hb)
  have HS24 := Aside0.mk (hb.size)
  clear hb
  have Ht0 := Aside0.mk ho
  clear ho
  go_wp2_with fail
  refine (toU_c HUS1.out hl1 HU1.out (Kd.C_below HR1.out HB.out) HC1.out HB.out.size).mono ?_
  rintro e w26 ⟨At1, ct1, rfl, ho, hb⟩
  replace Hwa := Aside0.mk (Kd.R_below Hwa.out hb)
  replace Hga := Aside0.mk (Kd.R_below Hga.out hb)
  replace Ht0 := Aside0.mk (Kd.R_below Ht0.out hb)
  replace HB := Aside0.mk (below_then HB.out HB.out.size hb)
  have HS25 := Aside0.mk (hb.size)
  clear hb
  have Ht1 := Aside0.mk ho
  clear ho
  go_wp2_with fail
  refine (toS_c hl2 (Kd.C_below HR2.out HB.out) HC2.out HB.out.size).mono ?_
  rintro e w27 ⟨At2, ct2, rfl, ho, hb⟩
  replace Hwa := Aside0.mk (Kd.R_below Hwa.out hb)
  replace Hga := Aside0.mk (Kd.R_below Hga.out hb)
  replace Ht0 := Aside0.mk (Kd.R_below Ht0.out hb)
  replace Ht1 := Aside0.mk (Kd.R_below Ht1.out hb)
  replace HB := Aside0.mk (below_then HB.out HB.out.size hb)
  have HS26 := Aside0.mk (hb.size)
  clear hb
  have Ht2 := Aside0.mk ho
  clear ho
  go_wp2_with fail
  refine (impl_PlanUnits.calls _ _ _ _ _ _ _ _ _ ans _ (Kd.R_reads' Ht0.out).2.2 (Kd.R_reads' Ht0.out).2.1 (Kd.R_reads' Ht1.out).2.2 (Kd.R_reads' Ht1.out).2.1 (Kd.R_reads' Ht2.out).2.2 (Kd.R_reads' Ht2.out).2.1 HIM.out).mono ?_
  rintro e w28 ⟨vha, rfl, ho, hb⟩
  obtain ⟨Aha, cha, rfl⟩ := Kd.R_slice ho
  replace ho := R_span ho HB.out.size
  replace Hwa := Aside0.mk (Kd.R_below Hwa.out hb)
  replace Hga := Aside0.mk (Kd.R_below Hga.out hb)
  replace Ht0 := Aside0.mk (Kd.R_below Ht0.out hb)
  replace Ht1 := Aside0.mk (Kd.R_below Ht1.out hb)
  replace Ht2 := Aside0.mk (Kd.R_below Ht2.out hb)
  replace HB := Aside0.mk (below_then HB.out HB.out.size hb)
  have HS27 := Aside0.mk (hb.size)
  clear hb
  have Hha := Aside0.mk ho
  clear ho
  clear Ht0
  clear Ht1
  clear Ht2
  go_wp2_with fail
  refine (eqA_c (Kd.R_reads' Hha.out).2.2 (Kd.R_reads' Hha.out).2.1 (Kd.R_reads' Hwa.out).2.2 (Kd.R_reads' Hwa.out).2.1).mono ?_
  rintro e w29 ⟨rfl, hb⟩
  replace Hwa := Aside0.mk (Kd.R_below Hwa.out hb)
  replace Hga := Aside0.mk (Kd.R_below Hga.out hb)
  replace Hha := Aside0.mk (Kd.R_below Hha.out hb)
  replace HB := Aside0.mk (below_then HB.out HB.out.size hb)
  have HS28 := Aside0.mk (hb.size)
  clear hb
  go_wp2_with fail
  refine (heldA_c 1 HMK.out hans (by omega) (by omega) Hga.out rfl).mono ?_
  rintro e w30 ⟨rfl, hb⟩
  replace Hwa := Aside0.mk (Kd.R_below Hwa.out hb)
  replace Hga := Aside0.mk (Kd.R_below Hga.out hb)
  replace Hha := Aside0.mk (Kd.R_below Hha.out hb)
  replace HB := Aside0.mk (below_then HB.out HB.out.size hb)
  have HS29 := Aside0.mk (hb.size)
  clear hb
  go_wp2_with fail
  go_ret
  exact ⟨rfl, HB.out⟩
end Go.Proofs.Ytnjmhlhlmokjnaa.G
