/-
  Part 3 of the texts of this claim: XStart, GSpecL18Ready, GSpecStartOrder, XPureOrder, XPlanPlain, XPlanImpl.
-/
import Derived.Test.YtnjmhlhlmokjnaaPlan2
namespace Go.Proofs.Ytnjmhlhlmokjnaa.G
open Go.RowKit Go.Maps Go.Proofs.YtnjmhlhlmokjnaaW.PrintWords Go.Proofs.YtnjmhlhlmokjnaaW.PrintLast
set_option linter.unusedVariables false
set_option linter.unusedSimpArgs false
theorem waits_len {us : List S32} {u : S32} (hg : UnitGood u) : (canonL (waitsL us u)).length ≤ 40 := by
  have h1 := nodup_sub_len (asc_nodup (asc_canonL (waitsL us u))) (l := u.f2 ++ u.f1) (fun x hx => by
    rw [mem_canonL] at hx
    unfold waitsL at hx
    rcases List.mem_append.1 hx with hx | hx
    · exact List.mem_append_left _ hx
    · exact List.mem_append_right _ (List.mem_filter.1 hx).1)
  have h2 := hg.after
  have h3 := hg.needs
  rw [List.length_append] at h1
  omega
theorem waits_fine {us : List S32} {u : S32} (hg : UnitGood u) : ∀ x ∈ canonL (waitsL us u), fine x := by
  intro x hx
  rw [mem_canonL] at hx
  unfold waitsL at hx
  rcases List.mem_append.1 hx with hx | hx
  · exact hg.fneeds x hx
  · exact hg.fafter x (List.mem_filter.1 hx).1
def allIn (o ws : List ByteArray) (q : Nat) : Bool := (ws.take q).all (fun x => decide (x ∈ o))
theorem allIn_step {o ws : List ByteArray} {q : Nat} (h : q < ws.length) : allIn o ws (q + 1) = (allIn o ws q && decide (rdOf ByteArray.empty ws (q : Int) ∈ o)) := by
  unfold allIn
  rw [rdOf_nat _ _ _ h, List.take_succ_eq_append_getElem h, List.all_append]
  simp
theorem allIn_ready {us : List S32} {o : List ByteArray} {u : S32} (hn : u.f0 ∉ o) : readyB us o u = allIn o (canonL (waitsL us u)) (canonL (waitsL us u)).length := by
  unfold readyB allIn
  rw [decide_eq_false hn, List.take_length]
  rw [Bool.eq_iff_iff]
  simp only [Bool.not_false, Bool.true_and, List.all_eq_true, mem_canonL]
set_option maxHeartbeats 8000000 in
set_option maxRecDepth 100000 in
theorem impl_startOrder.calls (A0 : Option Addr) (c0 : Nat) (l0 : List S32) (r : List ByteArray) (w : World) (hr0 : Kd.C k32 w A0 l0.length l0) (hc0 : l0.length ≤ c0) (h : impl_startOrder.f l0 = some r) :
    Calls Try.prog 59 #[.slice A0 l0.length c0] w fun e w' => ∃ v0_, e = .returned (v0_) ∧ Kd.R Kd.string 9 w' w.heap.size (fun _ => True) v0_ r ∧ Below w.heap.size w w' := by
  have hu32 := Try.underlying32
  have HR0 := Aside0.mk hr0
  have HC0 := Aside0.mk hc0
  clear hr0 hc0
  have hok : unitsOkB l0 = true := by
    cases c : unitsOkB l0 with
    | true => rfl
    | false => unfold impl_startOrder.f at h; rw [c] at h; cases h
  have hr : r = startL l0 := by
    unfold impl_startOrder.f at h
    rw [if_pos hok] at h
    exact (Option.some.inj h).symm
  clear h
  subst hr
  have HG := Aside0.mk (good_of_ok hok)
  have hl100 : l0.length ≤ 100 := HG.out.len
  have hmm := @run_makeMap Try.prog
  go_enter Try.func59, Try.ntmps59
  go_wp2_with (first | ((with_reducible refine gate_dst (N := 11) rfl ?_); refine Kd.R_lit Kd.string (w0 := w) w.heap.size 9 ?hg (N := 11) ?hd (xs := ([] : List ByteArray)) (inner := []) (ok := fun _ => True) (okp := fun _ => False) ?hr ?hp (fun _ hk => hk.elim) trivial (Below.refl _ _) (Nat.le_refl _) (by simp) ?_; (case hd => rfl); (case hg => rfl); (case hr => first | (go_simp; done) | (go_simp; rfl)); (case hp => exact (Reps.none _ _)); intro v w3 ho hb hg_ hnew_) | fail)
  have HO3 := Aside0.mk (Kd.R_alloc (Kd.R_mono (ok' := fun k => k ≠ w3.heap.size) (Kd.R_bound ho) (fun k hk => Nat.ne_of_lt hk.2.2.1)) (.map #[] 0))
  have HB3 := Aside0.mk (below_alloc hb (.map #[] 0))
  have HS3 := Aside0.mk (SetM.made w3)
  have hbm : w.heap.size ≤ w3.heap.size := hb.size
  obtain ⟨bm, hbme⟩ : ∃ b, b = w3.heap.size := ⟨_, rfl⟩
  rw [← hbme] at HO3 HS3 hbm ⊢
  clear hbme ho hb hg_ hnew_
  obtain ⟨K, hK⟩ : ∃ K, K = l0.length + 2 := ⟨_, rfl⟩
  go_loopg [3, 5] K (fun kq v3 v5 wr => ∃ (m : Bool) (n : Nat) (S : ByteArray → Bool) (o : List ByteArray), v5 = .bool m ∧ n ≤ o.length ∧ Aside0 (SetM wr bm n S) ∧ Aside0 (Kd.R Kd.string 9 wr w.heap.size (fun k => k ≠ bm) v3 o) ∧ Aside0 (OrdInv l0 o) ∧ Aside0 (∀ x, S x = decide (x ∈ o)) ∧ Aside0 (m = false → l0.find? (readyB l0 o) = none) ∧ Aside0 (Below w.heap.size w wr) ∧ Aside0 (kq ≤ K) ∧ Aside0 (1 ≤ kq ∧ (m = true → l0.length + 2 ≤ o.length + kq)))
  case atStart => exact ⟨true, 0, _, [], rfl, Nat.le_refl _, HS3, HO3, ⟨OrdInv.start _⟩, ⟨by simp⟩, ⟨by simp⟩, HB3, ⟨Nat.le_refl _⟩, ⟨by omega, by simp; omega⟩⟩
  case round =>
    clear HO3 HB3 HS3
    obtain ⟨m, n, S, o, rfl, hn, HS, HO, HI, HM, HF, HB, HK1, HK2⟩ := hrel
    cases gk with
    | zero => exact absurd HK2.out.1 (by omega)
    | succ k1 =>
      cases m with
      | false =>
        obtain ⟨A6, c6, hv⟩ := Kd.R_slice HO.out
        subst hv
        have hres := HI.out.done (HF.out rfl)
        go_wp2_with fail
        go_ret
        exact ⟨_, rfl, by rw [← hres]; exact Kd.R_mono HO.out (fun _ _ => trivial), HB.out⟩
      | true =>
        have HK := Aside0.mk (HK2.out.2 rfl)
        have hol := HI.out.len
        go_wp2_with fail
        go_loopw [16, 3, 5] (fun v16 v3 v5 wr => ∃ (i : Nat), v16 = .int .i64 i ∧ v5 = .bool false ∧ i ≤ l0.length ∧ Aside0 (SetM wr bm n S) ∧ Aside0 (Kd.R Kd.string 9 wr w.heap.size (fun k => k ≠ bm) v3 o) ∧ Aside0 (Below w.heap.size w wr) ∧ Aside0 (∀ j : Nat, j < i → readyB l0 o (rd_T32 l0 (j : Int)) = false)) (fun v16 _ _ _ => l0.length - (intOf v16).toNat)
        case atStart => exact ⟨0, rfl, rfl, Nat.zero_le _, HS, HO, HB, ⟨fun j hj => absurd hj (Nat.not_lt_zero _)⟩⟩
        case round =>
          clear HS HO HB HF
          obtain ⟨i, rfl, rfl, hi, HS, HO, HB, HN⟩ := hrel
          by_cases hlt : i < l0.length
          · obtain ⟨ad, A1, c1, A2, c2, hA, x0, x1, x2, x3, x4, l1, g1, l2, g2⟩ := at_T32 HR0.out (i : Int) (by omega) (by omega)
            cases hA
            simp only [Int.toNat_natCast] at x0 x1 x2 x3 x4
            obtain ⟨u, hu0⟩ : ∃ u, u = rd_T32 l0 (i : Int) := ⟨_, rfl⟩
            have HU := Aside0.mk hu0
            rw [← hu0] at x0 x1 x2 x3 x4 g1 g2 l1 l2
            have hum : u ∈ l0 := by rw [hu0]; exact rdT_mem hlt
            clear hu0
            have G1 := Aside0.mk (Kd.C_alloc (Kd.C_below g1 HB.out) (.cells #[Value.string u.f0, Value.slice A1 u.f1.length c1, Value.slice A2 u.f2.length c2, Value.string u.f3, Value.bool u.f4] 32))
            have G2 := Aside0.mk (Kd.C_alloc (Kd.C_below g2 HB.out) (.cells #[Value.string u.f0, Value.slice A1 u.f1.length c1, Value.slice A2 u.f2.length c2, Value.string u.f3, Value.bool u.f4] 32))
            have L1 := Aside0.mk l1
            have L2 := Aside0.mk l2
            clear g1 g2 l1 l2
            have hug := unit_good (HG.out.unit u hum)
            replace x0 := (HB.out.cell (World.block_lt_of_cell? w _ x0)).trans x0
            replace x1 := (HB.out.cell (World.block_lt_of_cell? w _ x1)).trans x1
            replace x2 := (HB.out.cell (World.block_lt_of_cell? w _ x2)).trans x2
            replace x3 := (HB.out.cell (World.block_lt_of_cell? w _ x3)).trans x3
            replace x4 := (HB.out.cell (World.block_lt_of_cell? w _ x4)).trans x4
            have HSa := Aside0.mk (HS.out.alloc (.cells #[Value.string u.f0, Value.slice A1 u.f1.length c1, Value.slice A2 u.f2.length c2, Value.string u.f3, Value.bool u.f4] 32))
            have HBa := Aside0.mk (below_alloc HB.out (.cells #[Value.string u.f0, Value.slice A1 u.f1.length c1, Value.slice A2 u.f2.length c2, Value.string u.f3, Value.bool u.f4] 32))
            have HOa := Aside0.mk (Kd.R_alloc HO.out (.cells #[Value.string u.f0, Value.slice A1 u.f1.length c1, Value.slice A2 u.f2.length c2, Value.string u.f3, Value.bool u.f4] 32))
            have hcell := cell_new_unit wr (s := Value.string u.f0) (a := Value.slice A1 u.f1.length c1) (b := Value.slice A2 u.f2.length c2) (c := Value.string u.f3) (d := Value.bool u.f4) trivial
            have hszn : wr.heap.size < (wr.alloc (.cells #[Value.string u.f0, Value.slice A1 u.f1.length c1, Value.slice A2 u.f2.length c2, Value.string u.f3, Value.bool u.f4] 32)).heap.size := blk_lt (blk_new _ _)
            have hwb : bm < wr.heap.size := HS.out.lt
            cases hS : S u.f0 with
            | true =>
              go_wp2_with (first | (at_lookup; refine wpList_set_look _ rfl _ _ rfl bm n S u.f0 rfl rfl HSa.out hug.name ?_; rw [hS]) | fail)
              go_roundw
              case rel =>
                exact ⟨i + 1, by simp, rfl, hlt, HSa, HOa, HBa, ⟨fun j hj => by
                  rcases Nat.lt_or_ge j i with h | h
                  · exact HN.out j h
                  · obtain rfl : j = i := by omega
                    rw [← HU.out]
                    have hx : u.f0 ∈ o := of_decide_eq_true ((HM.out _).symm.trans hS)
                    unfold readyB
                    rw [decide_eq_true hx]
                    rfl⟩⟩
              case measure => simp [intOf]; omega
            | false =>
              have hno : u.f0 ∉ o := of_decide_eq_false ((HM.out _).symm.trans hS)
              go_wp2_with (first | (at_lookup; refine wpList_set_look _ rfl _ _ rfl bm n S u.f0 rfl rfl HSa.out hug.name ?_; rw [hS]) | (go_at_call 62; refine (waits_c (some ad) c0 l0 hl100 u hug A1 c1 A2 c2 _ (Kd.C_alloc (Kd.C_below HR0.out HB.out) _) HC0.out G1.out L1.out G2.out L2.out).mono ?_; rintro e w5 ⟨vw, rfl, hw5, hb5⟩; obtain ⟨A5, c5, hv5⟩ := Kd.R_slice hw5; subst hv5) | fail)
              have hwl := waits_len (us := l0) hug
              have hwf := waits_fine (us := l0) hug
              have hrdy := allIn_ready (us := l0) hno
              obtain ⟨ws, hws⟩ : ∃ ws, ws = canonL (waitsL l0 u) := ⟨_, rfl⟩
              rw [← hws] at hw5 hwl hwf hrdy ⊢
              clear hws
              have HW5 := Aside0.mk (Kd.R_reads' hw5).2.2
              have HS5 := Aside0.mk (HSa.out.below hb5)
              have HO5 := Aside0.mk (Kd.R_below HOa.out hb5)
              have HB5 := Aside0.mk (below_weaken HBa.out HBa.out.size hb5)
              have hcell5 := (hb5.cell (p := ⟨wr.heap.size, 0, none⟩) hszn).trans hcell
              have hsz5 : wr.heap.size < w5.heap.size := Nat.lt_of_lt_of_le hszn hb5.size
              obtain ⟨pb, hpb⟩ : ∃ p, p = wr.heap.size := ⟨_, rfl⟩
              rw [← hpb] at hcell5 hwb hsz5 ⊢
              have HRD := Aside0.mk hrdy
              have HWF := Aside0.mk hwf
              clear hrdy hwf hcell hszn hw5 HSa HOa HBa hpb hb5
              go_loopw [28, 8] (fun v28 v8 w6 => ∃ (q : Nat), v28 = .int .i64 q ∧ v8 = .bool (allIn o ws q) ∧ q ≤ ws.length ∧ w6 = w5) (fun v28 _ _ => ws.length - (intOf v28).toNat)
              case atStart => exact ⟨0, rfl, rfl, Nat.zero_le _, rfl⟩
              case round =>
                obtain ⟨q, rfl, rfl, hq, rfl⟩ := hrel
                by_cases hlq : q < ws.length
                · obtain ⟨ad2, hA2, y0⟩ := Kd.at_string HW5.out (q : Int) (by omega) (by omega)
                  cases hA2
                  have hst := allIn_step (o := o) hlq
                  have hfx := HWF.out _ (rd_mem hlq)
                  obtain ⟨x, hx0⟩ : ∃ x, x = rdOf ByteArray.empty ws (q : Int) := ⟨_, rfl⟩
                  rw [← hx0] at y0 hst hfx
                  simp only [Int.toNat_natCast] at y0
                  clear hx0
                  have hlook := HS5.out.look hfx
                  rw [HM.out x] at hlook
                  cases hall : allIn o ws q with
                  | false =>
                    rw [hall, Bool.false_and] at hst
                    go_wp2_with fail
                    go_roundw
                    case rel => exact ⟨q + 1, by simp, by rw [hst], hlq, (by first | rfl | trivial)⟩
                    case measure => simp [intOf]; omega
                  | true =>
                    rw [hall, Bool.true_and] at hst
                    cases hin : decide (x ∈ o) with
                    | false =>
                      rw [hin] at hlook hst
                      go_wp2_with fail
                      go_roundw
                      case rel => exact ⟨q + 1, by simp, by rw [hst], hlq, (by first | rfl | trivial)⟩
                      case measure => simp [intOf]; omega
                    | true =>
                      rw [hin] at hlook hst
                      go_wp2_with fail
                      go_roundw
                      case rel => exact ⟨q + 1, by simp, by rw [hst], hlq, (by first | rfl | trivial)⟩
                      case measure => simp [intOf]; omega
                · have hqe : q = ws.length := by omega
                  subst hqe
                  cases hrd : readyB l0 o u with
                  | false =>
                    have hall : allIn o ws ws.length = false := HRD.out.symm.trans hrd
                    rw [hall]
                    go_wp2_with fail
                    go_roundw
                    case rel =>
                      exact ⟨i + 1, by simp, rfl, hlt, HS5, HO5, HB5, ⟨fun j hj => by
                        rcases Nat.lt_or_ge j i with h | h
                        · exact HN.out j h
                        · obtain rfl : j = i := by omega
                          rw [← HU.out]
                          exact hrd⟩⟩
                    case measure => simp [intOf]; omega
                  | true =>
                    have hall : allIn o ws ws.length = true := HRD.out.symm.trans hrd
                    rw [hall]
                    go_wp2_with (first | (at_mapUpdate; refine wpList_set_put _ rfl _ _ _ rfl bm n S u.f0 rfl rfl rfl HS5.out (by omega) hug.name ?_; intro w6 hs6 hg6; have hcell6 := (cell_of_block (o := 0) (hg6.block pb hsz5 (by simp; omega))).trans hcell5; have hO6 := Kd.R_grown HO5.out hg6 (fun k hk => by simpa using hk); have hB6 := HB5.out.grown hg6 HB5.out.size (fun k hk => by cases hk; exact hbm)) | ((with_reducible refine gate_builtin (b := .append) (xs := #[.tmp 43, .tmp 46]) rfl ?_); at_builtin; refine Kd.R_append Kd.string (w0 := w) w.heap.size rfl (.tmp 43) (.tmp 46) 25 9 (.string ⟨#[]⟩) 16 rfl Try.underlying25 info9 rfl (by decide) (by omega) u3 o u.f0 [.string u.f0] (fun k => k ≠ bm) (fun _ => False) rfl rfl ?aP (fun _ hk => hk.elim) ?aF hO6 hB6 ?aS ?aL ?_; (case aP => exact rfl); (case aF => exact (fun k hk => by have := hg6.size; omega)); (case aS => exact hB6.size); (case aL => omega); intro v1 w7 ho7 hb7 hg7 hat7) | fail)
                    have hf := find_at hlt HN.out (by rw [← rd_T32_nat l0 i hlt, ← HU.out]; exact hrd)
                    have hf2 : l0.find? (readyB l0 o) = some u := by rw [hf, HU.out, rd_T32_nat l0 i hlt]
                    have hroom := HI.out.room hum hno
                    go_roundg k1
                    case measure => have := HK1.out; omega
                    case rel =>
                      refine ⟨true, n + 1, _, o ++ [u.f0], by simp, by simp; omega, ⟨hs6.grown hg7 (fun e => (HO5.out.1 _ e.symm) rfl)⟩, ⟨ho7⟩, ⟨HI.out.next hf2⟩, ⟨fun x => ?_⟩, ⟨by simp⟩, ⟨hb7⟩, ⟨by have := HK1.out; omega⟩, ⟨by have := HK.out; omega, fun _ => by have := HK.out; simp; omega⟩⟩
                      rw [HM.out x]
                      simp only [List.mem_append, List.mem_singleton, Bool.decide_or]
                      rw [Bool.or_comm]
          · have hie : i = l0.length := by omega
            subst hie
            go_wp2_with fail
            go_roundg k1
            case measure => have := HK1.out; omega
            case rel => exact ⟨false, n, S, o, rfl, hn, HS, HO, HI, HM, ⟨fun _ => find_none HN.out⟩, HB, ⟨by have := HK1.out; omega⟩, ⟨by have := HK.out; omega, by simp⟩⟩
end Go.Proofs.Ytnjmhlhlmokjnaa.G
namespace Go.Proofs.Ytnjmhlhlmokjnaa.G
open Go.RowKit Go.Proofs.YtnjmhlhlmokjnaaW.PrintWords Go.Proofs.YtnjmhlhlmokjnaaW.PrintLast Go.Proofs.YtnjmhlhlmokjnaaW.PrintMore
attribute [local go_sem] max2_int min2_int max_two min_two max_three min_three max_four min_four
set_option linter.unusedVariables false
set_option linter.unusedSimpArgs false
mutual
def spec_l18Ready.l0 : Nat → List (S32) → List ByteArray → Int → ByteArray → List ByteArray → List ByteArray → ByteArray → Bool → Option (Bool)
  | 0, _, _, _, _, _, _, _, _ => none
  | k + 1, x0, x2, x7, x120000, x120001, x120002, x120003, x120004 => if x7 < (x120002.length : Int) then (if 0 ≤ x7 then ((spec_l3Has.f k x2 (rdOf ByteArray.empty x120002 x7)).bind fun t121 => (if t121 = true then (spec_l18Ready.l0 k x0 x2 (wrap64 (x7 + 1)) x120000 x120001 x120002 x120003 x120004) else (some false))) else (none)) else (spec_l18Ready.l1 k x0 x2 0 x120000 x120001 x120002 x120003 x120004)
def spec_l18Ready.l1 : Nat → List (S32) → List ByteArray → Int → ByteArray → List ByteArray → List ByteArray → ByteArray → Bool → Option (Bool)
  | 0, _, _, _, _, _, _, _, _ => none
  | k + 1, x0, x2, x8, x120000, x120001, x120002, x120003, x120004 => if x8 < (x120001.length : Int) then (if 0 ≤ x8 then ((spec_l18Find.f k x0 (rdOf ByteArray.empty x120001 x8)).bind fun t123 => (if t123 ≥ 0 then ((spec_l3Has.f k x2 (rdOf ByteArray.empty x120001 x8)).bind fun t125 => (if t125 = true then (spec_l18Ready.l1 k x0 x2 (wrap64 (x8 + 1)) x120000 x120001 x120002 x120003 x120004) else (some false))) else (spec_l18Ready.l1 k x0 x2 (wrap64 (x8 + 1)) x120000 x120001 x120002 x120003 x120004))) else (none)) else (some true)
end
def spec_l18Ready.f (k : Nat) (l0 : List (S32)) (a1_0 : ByteArray) (l1_1 : List ByteArray) (l1_2 : List ByteArray) (a1_3 : ByteArray) (a1_4 : Bool) (l2 : List ByteArray) : Option (Bool) := spec_l18Ready.l0 k l0 l2 0 a1_0 l1_1 l1_2 a1_3 a1_4
set_option maxHeartbeats 8000000 in
set_option maxRecDepth 100000 in
theorem spec_l18Ready.calls (k : Nat) (A0 : Option Addr) (c0 : Nat) (l0 : List (S32)) (a1_0 : ByteArray) (A1_1 : Option Addr) (c1_1 : Nat) (l1_1 : List ByteArray) (A1_2 : Option Addr) (c1_2 : Nat) (l1_2 : List ByteArray) (a1_3 : ByteArray) (a1_4 : Bool) (A2 : Option Addr) (c2 : Nat) (l2 : List ByteArray) (r : Bool) (w : World) (hr0 : Kd.C k32 w A0 l0.length l0) (hc0 : l0.length ≤ c0) (hr1_1 : Kd.C Kd.string w A1_1 l1_1.length l1_1) (hc1_1 : l1_1.length ≤ c1_1) (hr1_2 : Kd.C Kd.string w A1_2 l1_2.length l1_2) (hc1_2 : l1_2.length ≤ c1_2) (hr2 : Kd.C Kd.string w A2 l2.length l2) (hc2 : l2.length ≤ c2) (h : spec_l18Ready.f k l0 a1_0 l1_1 l1_2 a1_3 a1_4 l2 = some r) :
    Calls Try.prog 58 #[.slice A0 l0.length c0, .agg #[.string a1_0, .slice A1_1 l1_1.length c1_1, .slice A1_2 l1_2.length c1_2, .string a1_3, .bool a1_4], .slice A2 l2.length c2] w fun e w' => e = .returned (.bool r) ∧ Below w.heap.size w w' := by
  have hu32 := Try.underlying32
  have HR0 := Aside0.mk hr0
  have HC0 := Aside0.mk hc0
  clear hr0 hc0
  have HR1_1 := Aside0.mk hr1_1
  have HC1_1 := Aside0.mk hc1_1
  clear hr1_1 hc1_1
  have HR1_2 := Aside0.mk hr1_2
  have HC1_2 := Aside0.mk hc1_2
  clear hr1_2 hc1_2
  have HR2 := Aside0.mk hr2
  have HC2 := Aside0.mk hc2
  clear hr2 hc2
  have HB := Aside0.mk (Below.refl w.heap.size w)
  have H : (spec_l18Ready.l0 k l0 l2 0 a1_0 l1_1 l1_2 a1_3 a1_4) = some r := h
  clear h
  have H' := Aside0.mk H
  clear H
  go_enter Try.func58, Try.ntmps58
  go_wp2_with (first | ((with_reducible refine gate_dst (N := 4) rfl ?_); refine box_event ?hg (N := 4) ?hd (cs := #[.string a1_0, .slice A1_1 l1_1.length c1_1, .slice A1_2 l1_2.length c1_2, .string a1_3, .bool a1_4]) (t := 32) ?hr ?_; (case hd => rfl); (case hg => rfl); (case hr => first | (go_simp; done) | (go_simp; rfl)); intro gb119 hg w4 hbox hb; have n0_ := Aside0.mk (below_step (by repeat (first | (with_reducible first | exact HB.out | apply below_alloc | apply pw_below_drewN | apply below_drew1) | exact HB.out)) hb); have n1_ := Aside0.mk (hbox); have n2_ := Aside0.mk ((by rw [hg]; exact (below_size (by repeat (first | (with_reducible first | exact HB.out | apply below_alloc | apply pw_below_drewN | apply below_drew1) | exact HB.out))) : w.heap.size ≤ gb119)); have n3_ := Aside0.mk ((by rw [hg]; exact (below_size (by repeat (first | (with_reducible first | exact HB.out | apply below_alloc | apply pw_below_drewN | apply below_drew1) | exact HB.out))) : w.heap.size ≤ gb119)); clear HB; have HB := n0_; have BK119 := n1_; have GW119 := n2_; have GE119 := n3_; clear n0_ n1_ n2_ n3_; clear hb hbox hg))
  go_loopg [7] k (fun kq v7 w' => ∃ (x7_1 : Int), v7 = .int .i64 x7_1 ∧ Aside0 (spec_l18Ready.l0 kq l0 l2 x7_1 a1_0 l1_1 l1_2 a1_3 a1_4 = some r) ∧ Aside0 (kq ≤ k) ∧ Aside0 (w'.heap[gb119]? = some (.cells #[.string a1_0, (.slice A1_1 l1_1.length c1_1), (.slice A1_2 l1_2.length c1_2), .string a1_3, .bool a1_4] 32 (0, 0))) ∧ Aside0 (Below w.heap.size w w'))
  case atStart => exact ⟨(0), (by first | rfl | (simp; done) | (simp [*]; done)), H', ⟨Nat.le_refl _⟩, ⟨by (with_reducible repeat (first | refine blk_drewN ?_ _ | refine blk_drew ?_ | refine blk_alloc ?_ _)); exact BK119.out⟩, ⟨by repeat (first | (with_reducible first | exact HB.out | apply below_alloc | apply pw_below_drewN | apply below_drew1 | refine below_set ?_ GE119.out) | exact HB.out)⟩⟩
  case round =>
    clear H'
    try clear c1
    try clear c2
    try clear p2
    obtain ⟨x7_1, rfl, HA, HK1, BK119, HB⟩ := hrel
    cases gk with
    | zero => exact absurd HA.out (by simp [spec_l18Ready.l0])
    | succ k1 =>
      have H := HA.out
      clear HA
      simp only [spec_l18Ready.l0] at H
      by_cases c5 : x7_1 < (l1_2.length : Int)
      · rw [if_pos c5] at H
        have c5b0 : decide (x7_1 < (l1_2.length : Int)) = true := decide_eq_true c5
        clear c5
        by_cases c6 : 0 ≤ x7_1
        · rw [if_pos c6] at H
          have c6b0 : decide (0 ≤ x7_1) = true := decide_eq_true c6
          clear c6
          replace H := Option.bind_eq_some_iff.mp H
          obtain ⟨t121, A70, H⟩ := H
          replace H : (if t121 = true then (spec_l18Ready.l0 k1 l0 l2 (wrap64 (x7_1 + 1)) a1_0 l1_1 l1_2 a1_3 a1_4) else (some false)) = some r := H
          have A7 := Aside0.mk A70
          clear A70
          by_cases c8 : t121 = true
          · subst c8
            have H1 : (spec_l18Ready.l0 k1 l0 l2 (wrap64 (x7_1 + 1)) a1_0 l1_1 l1_2 a1_3 a1_4) = some r := by rw [if_pos rfl] at H; exact H
            clear H
            have H := H1
            clear H1
            have H' := Aside0.mk H
            clear H
            have hcz9_0 : wr.cell? ⟨gb119, 0, none⟩ = some (.string a1_0) := (blk_cell BK119.out 0).trans rfl
            have hcz9_1 : wr.cell? ⟨gb119, 1, none⟩ = some (.slice A1_1 l1_1.length c1_1) := (blk_cell BK119.out 1).trans rfl
            have hcz9_2 : wr.cell? ⟨gb119, 2, none⟩ = some (.slice A1_2 l1_2.length c1_2) := (blk_cell BK119.out 2).trans rfl
            have hcz9_3 : wr.cell? ⟨gb119, 3, none⟩ = some (.string a1_3) := (blk_cell BK119.out 3).trans rfl
            have hcz9_4 : wr.cell? ⟨gb119, 4, none⟩ = some (.bool a1_4) := (blk_cell BK119.out 4).trans rfl
            have hfz9_0 := blk_frozen BK119.out 0
            have hfz9_1 := blk_frozen BK119.out 1
            have hfz9_2 := blk_frozen BK119.out 2
            have hfz9_3 := blk_frozen BK119.out 3
            have hfz9_4 := blk_frozen BK119.out 4
            have p120 : 0 ≤ (x7_1 : Int) := of_decide_eq_true (by first | (with_reducible assumption) | assumption)
            have q120 : x7_1 < (l1_2.length : Int) := of_decide_eq_true (by first | (with_reducible assumption) | assumption)
            obtain ⟨ad120, e120, hx120_0⟩ := Kd.at_string HR1_2.out x7_1 p120 q120
            cases e120
            replace hx120_0 := (HB.out.cell (World.block_lt_of_cell? w _ hx120_0)).trans hx120_0
            replace p120 := eq_true p120
            replace q120 := eq_true q120
            go_wp2_with (first | ((with_reducible refine gate_callee (f := 51) rfl ?_); refine goesL_ (some 22) rfl rfl Try.func51 (by kernel_rfl) rfl #[.slice A2 l2.length c2, .string (rdOf ByteArray.empty l1_2 x7_1)] rfl (by (try simp only [List.map_toArray, List.map_cons, List.map_nil]); first | done | rfl | (simp only [List.length_drop, List.length_take]; rfl)) ?_; (with_reducible refine (spec_l3Has.calls k1 _ _ l2 (rdOf ByteArray.empty l1_2 x7_1) true _ ?side1 ?side2 A7.out).mono ?_); (case side1 => repeat (first | exact (Kd.C_below HR2.out HB.out) | (with_reducible refine Kd.C_alloc ?_ _) | (with_reducible refine Kd.C_drewN ?_ _) | (with_reducible refine Kd.C_drew ?_))); (case side2 => exact HC2.out); rintro e w' ⟨rfl, ⟨nd, rfl⟩⟩; refine ⟨_, rfl, ?_⟩))
            go_roundg k1
            case measure => have := HK1.out; omega
            case rel => exact ⟨(wrap64 (x7_1 + 1)), (by first | rfl | (simp; done) | (simp [*]; done)), H', ⟨by have := HK1.out; omega⟩, ⟨by (with_reducible repeat (first | refine blk_drewN ?_ _ | refine blk_drew ?_ | refine blk_alloc ?_ _)); exact BK119.out⟩, ⟨by repeat (first | (with_reducible first | exact HB.out | apply below_alloc | apply pw_below_drewN | apply below_drew1 | refine below_set ?_ GE119.out) | exact HB.out)⟩⟩
          · replace c8 := Bool.eq_false_iff.mpr c8
            subst c8
            have H1 : (some false) = some r := by rw [if_neg (show ¬ (false = true) by decide)] at H; exact H
            clear H
            have H := H1
            clear H1
            obtain rfl := Option.some.inj H
            have hcz10_0 : wr.cell? ⟨gb119, 0, none⟩ = some (.string a1_0) := (blk_cell BK119.out 0).trans rfl
            have hcz10_1 : wr.cell? ⟨gb119, 1, none⟩ = some (.slice A1_1 l1_1.length c1_1) := (blk_cell BK119.out 1).trans rfl
            have hcz10_2 : wr.cell? ⟨gb119, 2, none⟩ = some (.slice A1_2 l1_2.length c1_2) := (blk_cell BK119.out 2).trans rfl
            have hcz10_3 : wr.cell? ⟨gb119, 3, none⟩ = some (.string a1_3) := (blk_cell BK119.out 3).trans rfl
            have hcz10_4 : wr.cell? ⟨gb119, 4, none⟩ = some (.bool a1_4) := (blk_cell BK119.out 4).trans rfl
            have hfz10_0 := blk_frozen BK119.out 0
            have hfz10_1 := blk_frozen BK119.out 1
            have hfz10_2 := blk_frozen BK119.out 2
            have hfz10_3 := blk_frozen BK119.out 3
            have hfz10_4 := blk_frozen BK119.out 4
            have p120 : 0 ≤ (x7_1 : Int) := of_decide_eq_true (by first | (with_reducible assumption) | assumption)
            have q120 : x7_1 < (l1_2.length : Int) := of_decide_eq_true (by first | (with_reducible assumption) | assumption)
            obtain ⟨ad120, e120, hx120_0⟩ := Kd.at_string HR1_2.out x7_1 p120 q120
            cases e120
            replace hx120_0 := (HB.out.cell (World.block_lt_of_cell? w _ hx120_0)).trans hx120_0
            replace p120 := eq_true p120
            replace q120 := eq_true q120
            go_wp2_with (first | ((with_reducible refine gate_callee (f := 51) rfl ?_); refine goesL_ (some 22) rfl rfl Try.func51 (by kernel_rfl) rfl #[.slice A2 l2.length c2, .string (rdOf ByteArray.empty l1_2 x7_1)] rfl (by (try simp only [List.map_toArray, List.map_cons, List.map_nil]); first | done | rfl | (simp only [List.length_drop, List.length_take]; rfl)) ?_; (with_reducible refine (spec_l3Has.calls k1 _ _ l2 (rdOf ByteArray.empty l1_2 x7_1) false _ ?side1 ?side2 A7.out).mono ?_); (case side1 => repeat (first | exact (Kd.C_below HR2.out HB.out) | (with_reducible refine Kd.C_alloc ?_ _) | (with_reducible refine Kd.C_drewN ?_ _) | (with_reducible refine Kd.C_drew ?_))); (case side2 => exact HC2.out); rintro e w' ⟨rfl, ⟨nd, rfl⟩⟩; refine ⟨_, rfl, ?_⟩))
            go_ret
            exact ⟨by first | rfl | (simp [errW_none, errW_some] <;> rfl) | (simp [*, errW_none, errW_some] <;> rfl), by repeat (first | (with_reducible first | exact HB.out | apply below_alloc | apply pw_below_drewN | apply below_drew1 | refine below_set ?_ GE119.out) | exact HB.out)⟩
        · rw [if_neg c6] at H
          exact absurd H (by simp)
      · rw [if_neg c5] at H
        have c5b0 : decide (x7_1 < (l1_2.length : Int)) = false := decide_eq_false c5
        clear c5
        have H' := Aside0.mk H
        clear H
        have hcz11_0 : wr.cell? ⟨gb119, 0, none⟩ = some (.string a1_0) := (blk_cell BK119.out 0).trans rfl
        have hcz11_1 : wr.cell? ⟨gb119, 1, none⟩ = some (.slice A1_1 l1_1.length c1_1) := (blk_cell BK119.out 1).trans rfl
        have hcz11_2 : wr.cell? ⟨gb119, 2, none⟩ = some (.slice A1_2 l1_2.length c1_2) := (blk_cell BK119.out 2).trans rfl
        have hcz11_3 : wr.cell? ⟨gb119, 3, none⟩ = some (.string a1_3) := (blk_cell BK119.out 3).trans rfl
        have hcz11_4 : wr.cell? ⟨gb119, 4, none⟩ = some (.bool a1_4) := (blk_cell BK119.out 4).trans rfl
        have hfz11_0 := blk_frozen BK119.out 0
        have hfz11_1 := blk_frozen BK119.out 1
        have hfz11_2 := blk_frozen BK119.out 2
        have hfz11_3 := blk_frozen BK119.out 3
        have hfz11_4 := blk_frozen BK119.out 4
        go_wp2
        go_loopg [8] k1 (fun kq v8 w' => ∃ (x8_2 : Int), v8 = .int .i64 x8_2 ∧ Aside0 (spec_l18Ready.l1 kq l0 l2 x8_2 a1_0 l1_1 l1_2 a1_3 a1_4 = some r) ∧ Aside0 (kq ≤ k1) ∧ Aside0 (w'.heap[gb119]? = some (.cells #[.string a1_0, (.slice A1_1 l1_1.length c1_1), (.slice A1_2 l1_2.length c1_2), .string a1_3, .bool a1_4] 32 (0, 0))) ∧ Aside0 (Below w.heap.size w w'))
        case atStart => exact ⟨(0), (by first | rfl | (simp; done) | (simp [*]; done)), H', ⟨Nat.le_refl _⟩, ⟨by (with_reducible repeat (first | refine blk_drewN ?_ _ | refine blk_drew ?_ | refine blk_alloc ?_ _)); exact BK119.out⟩, ⟨by repeat (first | (with_reducible first | exact HB.out | apply below_alloc | apply pw_below_drewN | apply below_drew1 | refine below_set ?_ GE119.out) | exact HB.out)⟩⟩
        case round =>
          clear H'
          try clear c1
          try clear p1
          try clear q1
          try clear hx1
          try clear c2
          try clear p2
          try clear c5
          try clear c5b0
          try clear c6
          try clear c6b0
          try clear p6
          try clear c8
          try clear hcz10_0
          try clear hcz10_1
          try clear hcz10_2
          try clear hcz10_3
          try clear hcz10_4
          try clear hcz11_0
          try clear hcz11_1
          try clear hcz11_2
          try clear hcz11_3
          try clear hcz11_4
          try clear hcz9_0
          try clear hcz9_1
          try clear hcz9_2
          try clear hcz9_3
          try clear hcz9_4
          try clear hfz10_0
          try clear hfz10_1
          try clear hfz10_2
          try clear hfz10_3
          try clear hfz10_4
          try clear hfz11_0
          try clear hfz11_1
          try clear hfz11_2
          try clear hfz11_3
          try clear hfz11_4
          try clear hfz9_0
          try clear hfz9_1
          try clear hfz9_2
          try clear hfz9_3
          try clear hfz9_4
          try clear hx120_0
          try clear p120
          try clear p2
          try clear q120
          obtain ⟨x8_2, rfl, HA, HK2, BK119, HB⟩ := hrel
          cases gk with
          | zero => exact absurd HA.out (by simp [spec_l18Ready.l1])
          | succ k2 =>
            have H := HA.out
            clear HA
            simp only [spec_l18Ready.l1] at H
            by_cases c12 : x8_2 < (l1_1.length : Int)
            · rw [if_pos c12] at H
              have c12b0 : decide (x8_2 < (l1_1.length : Int)) = true := decide_eq_true c12
              clear c12
              by_cases c13 : 0 ≤ x8_2
              · rw [if_pos c13] at H
                have c13b0 : decide (0 ≤ x8_2) = true := decide_eq_true c13
                clear c13
                replace H := Option.bind_eq_some_iff.mp H
                obtain ⟨t123, A140, H⟩ := H
                replace H : (if t123 ≥ 0 then ((spec_l3Has.f k2 l2 (rdOf ByteArray.empty l1_1 x8_2)).bind fun t125 => (if t125 = true then (spec_l18Ready.l1 k2 l0 l2 (wrap64 (x8_2 + 1)) a1_0 l1_1 l1_2 a1_3 a1_4) else (some false))) else (spec_l18Ready.l1 k2 l0 l2 (wrap64 (x8_2 + 1)) a1_0 l1_1 l1_2 a1_3 a1_4)) = some r := H
                have A14 := Aside0.mk A140
                clear A140
                by_cases c15 : t123 ≥ 0
                · rw [if_pos c15] at H
                  have c15b0 : decide (0 ≤ t123) = true := decide_eq_true c15
                  clear c15
                  replace H := Option.bind_eq_some_iff.mp H
                  obtain ⟨t125, A160, H⟩ := H
                  replace H : (if t125 = true then (spec_l18Ready.l1 k2 l0 l2 (wrap64 (x8_2 + 1)) a1_0 l1_1 l1_2 a1_3 a1_4) else (some false)) = some r := H
                  have A16 := Aside0.mk A160
                  clear A160
                  by_cases c17 : t125 = true
                  · subst c17
                    have H1 : (spec_l18Ready.l1 k2 l0 l2 (wrap64 (x8_2 + 1)) a1_0 l1_1 l1_2 a1_3 a1_4) = some r := by rw [if_pos rfl] at H; exact H
                    clear H
                    have H := H1
                    clear H1
                    have H' := Aside0.mk H
                    clear H
                    have hcz18_0 : wr.cell? ⟨gb119, 0, none⟩ = some (.string a1_0) := (blk_cell BK119.out 0).trans rfl
                    have hcz18_1 : wr.cell? ⟨gb119, 1, none⟩ = some (.slice A1_1 l1_1.length c1_1) := (blk_cell BK119.out 1).trans rfl
                    have hcz18_2 : wr.cell? ⟨gb119, 2, none⟩ = some (.slice A1_2 l1_2.length c1_2) := (blk_cell BK119.out 2).trans rfl
                    have hcz18_3 : wr.cell? ⟨gb119, 3, none⟩ = some (.string a1_3) := (blk_cell BK119.out 3).trans rfl
                    have hcz18_4 : wr.cell? ⟨gb119, 4, none⟩ = some (.bool a1_4) := (blk_cell BK119.out 4).trans rfl
                    have hfz18_0 := blk_frozen BK119.out 0
                    have hfz18_1 := blk_frozen BK119.out 1
                    have hfz18_2 := blk_frozen BK119.out 2
                    have hfz18_3 := blk_frozen BK119.out 3
                    have hfz18_4 := blk_frozen BK119.out 4
                    have p122 : 0 ≤ (x8_2 : Int) := of_decide_eq_true (by first | (with_reducible assumption) | assumption)
                    have q122 : x8_2 < (l1_1.length : Int) := of_decide_eq_true (by first | (with_reducible assumption) | assumption)
                    obtain ⟨ad122, e122, hx122_0⟩ := Kd.at_string HR1_1.out x8_2 p122 q122
                    cases e122
                    replace hx122_0 := (HB.out.cell (World.block_lt_of_cell? w _ hx122_0)).trans hx122_0
                    replace p122 := eq_true p122
                    replace q122 := eq_true q122
                    go_wp2_with (first | ((with_reducible refine gate_callee (f := 52) rfl ?_); refine goesL_ (some 37) rfl rfl Try.func52 (by kernel_rfl) rfl #[.slice A0 l0.length c0, .string (rdOf ByteArray.empty l1_1 x8_2)] rfl (by (try simp only [List.map_toArray, List.map_cons, List.map_nil]); first | done | rfl | (simp only [List.length_drop, List.length_take]; rfl)) ?_; (with_reducible refine (spec_l18Find.calls k2 _ _ l0 (rdOf ByteArray.empty l1_1 x8_2) t123 _ ?side1 ?side2 A14.out).mono ?_); (case side1 => repeat (first | exact (Kd.C_below HR0.out HB.out) | (with_reducible refine Kd.C_alloc ?_ _) | (with_reducible refine Kd.C_drewN ?_ _) | (with_reducible refine Kd.C_drew ?_))); (case side2 => exact HC0.out); rintro e w' ⟨rfl, ⟨nd, rfl⟩⟩; refine ⟨_, rfl, ?_⟩; have p124 : 0 ≤ (x8_2 : Int) := of_decide_eq_true (by first | (with_reducible assumption) | assumption); have q124 : x8_2 < (l1_1.length : Int) := of_decide_eq_true (by first | (with_reducible assumption) | assumption); obtain ⟨ad124, e124, hx124_0⟩ := Kd.at_string HR1_1.out x8_2 p124 q124; obtain rfl : ad122 = ad124 := (by injection e124); replace hx124_0 := (HB.out.cell (World.block_lt_of_cell? w _ hx124_0)).trans hx124_0; replace p124 := eq_true p124; replace q124 := eq_true q124) | (go_at_call 51; (with_reducible refine (spec_l3Has.calls k2 _ _ l2 (rdOf ByteArray.empty l1_1 x8_2) true _ ?side1 ?side2 A16.out).mono ?_); (case side1 => repeat (first | exact (Kd.C_below HR2.out (by repeat (first | (with_reducible first | exact HB.out | apply below_alloc | apply pw_below_drewN | apply below_drew1 | refine below_set ?_ GE119.out) | exact HB.out))) | (with_reducible refine Kd.C_alloc ?_ _) | (with_reducible refine Kd.C_drewN ?_ _) | (with_reducible refine Kd.C_drew ?_))); (case side2 => exact HC2.out); rintro e w' ⟨rfl, ⟨nd, rfl⟩⟩))
                    go_roundg k2
                    case measure => have := HK1.out; have := HK2.out; omega
                    case rel => exact ⟨(wrap64 (x8_2 + 1)), (by first | rfl | (simp; done) | (simp [*]; done)), H', ⟨by have := HK1.out; have := HK2.out; omega⟩, ⟨by (with_reducible repeat (first | refine blk_drewN ?_ _ | refine blk_drew ?_ | refine blk_alloc ?_ _)); exact BK119.out⟩, ⟨by repeat (first | (with_reducible first | exact HB.out | apply below_alloc | apply pw_below_drewN | apply below_drew1 | refine below_set ?_ GE119.out) | exact HB.out)⟩⟩
                  · replace c17 := Bool.eq_false_iff.mpr c17
                    subst c17
                    have H1 : (some false) = some r := by rw [if_neg (show ¬ (false = true) by decide)] at H; exact H
                    clear H
                    have H := H1
                    clear H1
                    obtain rfl := Option.some.inj H
                    have hcz19_0 : wr.cell? ⟨gb119, 0, none⟩ = some (.string a1_0) := (blk_cell BK119.out 0).trans rfl
                    have hcz19_1 : wr.cell? ⟨gb119, 1, none⟩ = some (.slice A1_1 l1_1.length c1_1) := (blk_cell BK119.out 1).trans rfl
                    have hcz19_2 : wr.cell? ⟨gb119, 2, none⟩ = some (.slice A1_2 l1_2.length c1_2) := (blk_cell BK119.out 2).trans rfl
                    have hcz19_3 : wr.cell? ⟨gb119, 3, none⟩ = some (.string a1_3) := (blk_cell BK119.out 3).trans rfl
                    have hcz19_4 : wr.cell? ⟨gb119, 4, none⟩ = some (.bool a1_4) := (blk_cell BK119.out 4).trans rfl
                    have hfz19_0 := blk_frozen BK119.out 0
                    have hfz19_1 := blk_frozen BK119.out 1
                    have hfz19_2 := blk_frozen BK119.out 2
                    have hfz19_3 := blk_frozen BK119.out 3
                    have hfz19_4 := blk_frozen BK119.out 4
                    have p122 : 0 ≤ (x8_2 : Int) := of_decide_eq_true (by first | (with_reducible assumption) | assumption)
                    have q122 : x8_2 < (l1_1.length : Int) := of_decide_eq_true (by first | (with_reducible assumption) | assumption)
                    obtain ⟨ad122, e122, hx122_0⟩ := Kd.at_string HR1_1.out x8_2 p122 q122
                    cases e122
                    replace hx122_0 := (HB.out.cell (World.block_lt_of_cell? w _ hx122_0)).trans hx122_0
                    replace p122 := eq_true p122
                    replace q122 := eq_true q122
                    go_wp2_with (first | ((with_reducible refine gate_callee (f := 52) rfl ?_); refine goesL_ (some 37) rfl rfl Try.func52 (by kernel_rfl) rfl #[.slice A0 l0.length c0, .string (rdOf ByteArray.empty l1_1 x8_2)] rfl (by (try simp only [List.map_toArray, List.map_cons, List.map_nil]); first | done | rfl | (simp only [List.length_drop, List.length_take]; rfl)) ?_; (with_reducible refine (spec_l18Find.calls k2 _ _ l0 (rdOf ByteArray.empty l1_1 x8_2) t123 _ ?side1 ?side2 A14.out).mono ?_); (case side1 => repeat (first | exact (Kd.C_below HR0.out HB.out) | (with_reducible refine Kd.C_alloc ?_ _) | (with_reducible refine Kd.C_drewN ?_ _) | (with_reducible refine Kd.C_drew ?_))); (case side2 => exact HC0.out); rintro e w' ⟨rfl, ⟨nd, rfl⟩⟩; refine ⟨_, rfl, ?_⟩; have p124 : 0 ≤ (x8_2 : Int) := of_decide_eq_true (by first | (with_reducible assumption) | assumption); have q124 : x8_2 < (l1_1.length : Int) := of_decide_eq_true (by first | (with_reducible assumption) | assumption); obtain ⟨ad124, e124, hx124_0⟩ := Kd.at_string HR1_1.out x8_2 p124 q124; obtain rfl : ad122 = ad124 := (by injection e124); replace hx124_0 := (HB.out.cell (World.block_lt_of_cell? w _ hx124_0)).trans hx124_0; replace p124 := eq_true p124; replace q124 := eq_true q124) | (go_at_call 51; (with_reducible refine (spec_l3Has.calls k2 _ _ l2 (rdOf ByteArray.empty l1_1 x8_2) false _ ?side1 ?side2 A16.out).mono ?_); (case side1 => repeat (first | exact (Kd.C_below HR2.out (by repeat (first | (with_reducible first | exact HB.out | apply below_alloc | apply pw_below_drewN | apply below_drew1 | refine below_set ?_ GE119.out) | exact HB.out))) | (with_reducible refine Kd.C_alloc ?_ _) | (with_reducible refine Kd.C_drewN ?_ _) | (with_reducible refine Kd.C_drew ?_))); (case side2 => exact HC2.out); rintro e w' ⟨rfl, ⟨nd, rfl⟩⟩))
                    go_ret
                    exact ⟨by first | rfl | (simp [errW_none, errW_some] <;> rfl) | (simp [*, errW_none, errW_some] <;> rfl), by repeat (first | (with_reducible first | exact HB.out | apply below_alloc | apply pw_below_drewN | apply below_drew1 | refine below_set ?_ GE119.out) | exact HB.out)⟩
                · rw [if_neg c15] at H
                  have c15b0 : decide (0 ≤ t123) = false := decide_eq_false c15
                  clear c15
                  have H' := Aside0.mk H
                  clear H
                  have hcz20_0 : wr.cell? ⟨gb119, 0, none⟩ = some (.string a1_0) := (blk_cell BK119.out 0).trans rfl
                  have hcz20_1 : wr.cell? ⟨gb119, 1, none⟩ = some (.slice A1_1 l1_1.length c1_1) := (blk_cell BK119.out 1).trans rfl
                  have hcz20_2 : wr.cell? ⟨gb119, 2, none⟩ = some (.slice A1_2 l1_2.length c1_2) := (blk_cell BK119.out 2).trans rfl
                  have hcz20_3 : wr.cell? ⟨gb119, 3, none⟩ = some (.string a1_3) := (blk_cell BK119.out 3).trans rfl
                  have hcz20_4 : wr.cell? ⟨gb119, 4, none⟩ = some (.bool a1_4) := (blk_cell BK119.out 4).trans rfl
                  have hfz20_0 := blk_frozen BK119.out 0
                  have hfz20_1 := blk_frozen BK119.out 1
                  have hfz20_2 := blk_frozen BK119.out 2
                  have hfz20_3 := blk_frozen BK119.out 3
                  have hfz20_4 := blk_frozen BK119.out 4
                  have p122 : 0 ≤ (x8_2 : Int) := of_decide_eq_true (by first | (with_reducible assumption) | assumption)
                  have q122 : x8_2 < (l1_1.length : Int) := of_decide_eq_true (by first | (with_reducible assumption) | assumption)
                  obtain ⟨ad122, e122, hx122_0⟩ := Kd.at_string HR1_1.out x8_2 p122 q122
                  cases e122
                  replace hx122_0 := (HB.out.cell (World.block_lt_of_cell? w _ hx122_0)).trans hx122_0
                  replace p122 := eq_true p122
                  replace q122 := eq_true q122
                  go_wp2_with (first | ((with_reducible refine gate_callee (f := 52) rfl ?_); refine goesL_ (some 37) rfl rfl Try.func52 (by kernel_rfl) rfl #[.slice A0 l0.length c0, .string (rdOf ByteArray.empty l1_1 x8_2)] rfl (by (try simp only [List.map_toArray, List.map_cons, List.map_nil]); first | done | rfl | (simp only [List.length_drop, List.length_take]; rfl)) ?_; (with_reducible refine (spec_l18Find.calls k2 _ _ l0 (rdOf ByteArray.empty l1_1 x8_2) t123 _ ?side1 ?side2 A14.out).mono ?_); (case side1 => repeat (first | exact (Kd.C_below HR0.out HB.out) | (with_reducible refine Kd.C_alloc ?_ _) | (with_reducible refine Kd.C_drewN ?_ _) | (with_reducible refine Kd.C_drew ?_))); (case side2 => exact HC0.out); rintro e w' ⟨rfl, ⟨nd, rfl⟩⟩; refine ⟨_, rfl, ?_⟩))
                  go_roundg k2
                  case measure => have := HK1.out; have := HK2.out; omega
                  case rel => exact ⟨(wrap64 (x8_2 + 1)), (by first | rfl | (simp; done) | (simp [*]; done)), H', ⟨by have := HK1.out; have := HK2.out; omega⟩, ⟨by (with_reducible repeat (first | refine blk_drewN ?_ _ | refine blk_drew ?_ | refine blk_alloc ?_ _)); exact BK119.out⟩, ⟨by repeat (first | (with_reducible first | exact HB.out | apply below_alloc | apply pw_below_drewN | apply below_drew1 | refine below_set ?_ GE119.out) | exact HB.out)⟩⟩
              · rw [if_neg c13] at H
                exact absurd H (by simp)
            · rw [if_neg c12] at H
              have c12b0 : decide (x8_2 < (l1_1.length : Int)) = false := decide_eq_false c12
              clear c12
              obtain rfl := Option.some.inj H
              have hcz21_0 : wr.cell? ⟨gb119, 0, none⟩ = some (.string a1_0) := (blk_cell BK119.out 0).trans rfl
              have hcz21_1 : wr.cell? ⟨gb119, 1, none⟩ = some (.slice A1_1 l1_1.length c1_1) := (blk_cell BK119.out 1).trans rfl
              have hcz21_2 : wr.cell? ⟨gb119, 2, none⟩ = some (.slice A1_2 l1_2.length c1_2) := (blk_cell BK119.out 2).trans rfl
              have hcz21_3 : wr.cell? ⟨gb119, 3, none⟩ = some (.string a1_3) := (blk_cell BK119.out 3).trans rfl
              have hcz21_4 : wr.cell? ⟨gb119, 4, none⟩ = some (.bool a1_4) := (blk_cell BK119.out 4).trans rfl
              have hfz21_0 := blk_frozen BK119.out 0
              have hfz21_1 := blk_frozen BK119.out 1
              have hfz21_2 := blk_frozen BK119.out 2
              have hfz21_3 := blk_frozen BK119.out 3
              have hfz21_4 := blk_frozen BK119.out 4
              go_wp2
              go_ret
              exact ⟨by first | rfl | (simp [errW_none, errW_some] <;> rfl) | (simp [*, errW_none, errW_some] <;> rfl), by repeat (first | (with_reducible first | exact HB.out | apply below_alloc | apply pw_below_drewN | apply below_drew1 | refine below_set ?_ GE119.out) | exact HB.out)⟩
end Go.Proofs.Ytnjmhlhlmokjnaa.G
namespace Go.Proofs.Ytnjmhlhlmokjnaa.G
open Go.RowKit Go.Proofs.YtnjmhlhlmokjnaaW.PrintWords Go.Proofs.YtnjmhlhlmokjnaaW.PrintLast Go.Proofs.YtnjmhlhlmokjnaaW.PrintMore
attribute [local go_sem] max2_int min2_int max_two min_two max_three min_three max_four min_four
set_option linter.unusedVariables false
set_option linter.unusedSimpArgs false
mutual
def spec_StartOrder.l0 : Nat → List (S32) → List ByteArray → Int → Option (List ByteArray × Bool)
  | 0, _, _, _ => none
  | k + 1, x0, x4, x5 => if x5 < (x0.length : Int) then (spec_StartOrder.l1 k x0 x4 x5 0) else (some (x4, ((x4.length : Int) == (x0.length : Int))))
def spec_StartOrder.l1 : Nat → List (S32) → List ByteArray → Int → Int → Option (List ByteArray × Bool)
  | 0, _, _, _, _ => none
  | k + 1, x0, x4, x5, x6 => if x6 < (x0.length : Int) then (if 0 ≤ x6 then ((spec_l3Has.f k x4 ((rd_T32 x0 x6).f0)).bind fun t131 => (if t131 = true then (spec_StartOrder.l1 k x0 x4 x5 (wrap64 (x6 + 1))) else ((spec_l18Ready.f k x0 ((rd_T32 x0 x6).f0) ((rd_T32 x0 x6).f1) ((rd_T32 x0 x6).f2) ((rd_T32 x0 x6).f3) ((rd_T32 x0 x6).f4) x4).bind fun t133 => (if t133 = true then (if x4.length < 8796093022208 then (spec_StartOrder.l0 k x0 (x4 ++ [(rd_T32 x0 x6).f0]) (wrap64 (x5 + 1))) else (none)) else (spec_StartOrder.l1 k x0 x4 x5 (wrap64 (x6 + 1))))))) else (none)) else (spec_StartOrder.l0 k x0 x4 (wrap64 (x5 + 1)))
end
def spec_StartOrder.f (k : Nat) (l0 : List (S32)) : Option (List ByteArray × Bool) := (some (([] : List ByteArray) : List ByteArray)).bind fun y126 => ((spec_UnitsOk.f l0).bind fun t129 => (if t129 = true then (spec_StartOrder.l0 k l0 y126 0) else (some (y126, false))))
set_option maxHeartbeats 8000000 in
set_option maxRecDepth 100000 in
theorem spec_StartOrder.calls (k : Nat) (A0 : Option Addr) (c0 : Nat) (l0 : List (S32)) (r1 : List ByteArray) (r2 : Bool) (w : World) (hr0 : Kd.C k32 w A0 l0.length l0) (hc0 : l0.length ≤ c0) (h : spec_StartOrder.f k l0 = some (r1, r2)) :
    Calls Try.prog 27 #[.slice A0 l0.length c0] w fun e w' => ∃ v0_ : Value, e = .returned (.tuple #[v0_, .bool r2]) ∧ Kd.R Kd.string 9 w' w.heap.size (fun _ => True) v0_ r1 ∧ Below w.heap.size w w' := by
  have hu32 := Try.underlying32
  have HR0 := Aside0.mk hr0
  have HC0 := Aside0.mk hc0
  clear hr0 hc0
  have HB := Aside0.mk (Below.refl w.heap.size w)
  have H : ((some (([] : List ByteArray) : List ByteArray)).bind fun y126 => ((spec_UnitsOk.f l0).bind fun t129 => (if t129 = true then (spec_StartOrder.l0 k l0 y126 0) else (some (y126, false))))) = some (r1, r2) := h
  clear h
  obtain ⟨y126, hy126⟩ : ∃ y_ : List ByteArray, y_ = (([] : List ByteArray)) := ⟨_, rfl⟩
  replace H : ((spec_UnitsOk.f l0).bind fun t129 => (if t129 = true then (spec_StartOrder.l0 k l0 y126 0) else (some (y126, false)))) = some (r1, r2) := by first | (rw [hy126]; with_reducible exact H) | (have H2_ := (Option.bind_some _ _).symm.trans H; rw [hy126]; with_reducible exact H2_) | (have H2_ := (Option.bind_some _ _).symm.trans H; with_reducible exact H2_) | with_reducible exact H | (rw [hy126]; exact H) | exact H
  have Ny126 := Aside0.mk hy126
  clear hy126
  replace H := Option.bind_eq_some_iff.mp H
  obtain ⟨t129, A20, H⟩ := H
  replace H : (if t129 = true then (spec_StartOrder.l0 k l0 y126 0) else (some (y126, false))) = some (r1, r2) := H
  have A2 := Aside0.mk A20
  clear A20
  by_cases c3 : t129 = true
  · subst c3
    have H1 : (spec_StartOrder.l0 k l0 y126 0) = some (r1, r2) := by rw [if_pos rfl] at H; exact H
    clear H
    have H := H1
    clear H1
    have H' := Aside0.mk H
    clear H
    go_enter Try.func27, Try.ntmps27
    go_wp2_with (first | ((with_reducible refine gate_dst (N := 7) rfl ?_); refine Kd.R_lit Kd.string _ 9 ?hg (N := 7) ?hd (xs := ([] : List ByteArray)) (inner := []) (ok := fun _ => True) (okp := fun _ => True) ?hr ?hp (fun _ hk => hk) trivial (Below.refl _ _) (Nat.le_refl _) (by simp) ?_; (case hd => rfl); (case hg => rfl); (case hr => first | (go_simp; done) | (go_simp; rfl)); (case hp => exact (Reps.none _ _)); intro v127 w4 ho5 hb hg_ hnew_; clear hg_ hnew_; (first | rw [← Ny126.out] at ho5 | (simp only [Int.reduceToNat] at ho5; rw [← Ny126.out] at ho5)); have n0_ := Aside0.mk (Kd.R_lower ho5 (below_size (by repeat (first | (with_reducible first | exact HB.out | apply below_alloc | apply pw_below_drewN | apply below_drew1) | exact HB.out)))); have n1_ := Aside0.mk (below_step (by repeat (first | (with_reducible first | exact HB.out | apply below_alloc | apply pw_below_drewN | apply below_drew1) | exact HB.out)) hb); clear HB; have HO128 := n0_; have HB := n1_; clear n0_ n1_; clear hb ho5) | ((with_reducible refine gate_callee (f := 13) rfl ?_); refine goesL_ (some 9) rfl rfl Try.func13 (by kernel_rfl) rfl #[.slice A0 l0.length c0] rfl (by (try simp only [List.map_toArray, List.map_cons, List.map_nil]); first | done | rfl | (simp only [List.length_drop, List.length_take]; rfl)) ?_; (with_reducible refine (spec_UnitsOk.calls _ _ l0 true _ ?side1 ?side2 A2.out).mono ?_); (case side1 => repeat (first | exact (Kd.C_below HR0.out HB.out) | (with_reducible refine Kd.C_alloc ?_ _) | (with_reducible refine Kd.C_drewN ?_ _) | (with_reducible refine Kd.C_drew ?_))); (case side2 => exact HC0.out); rintro e w6 ⟨rfl, hb⟩; refine ⟨_, rfl, ?_⟩; have n0_ := Aside0.mk (Kd.R_below (by (with_reducible repeat (first | apply Kd.R_alloc | apply Kd.R_drewN | apply Kd.R_drew)); exact HO128.out) hb); have n1_ := Aside0.mk (below_step (by repeat (first | (with_reducible first | exact HB.out | apply below_alloc | apply pw_below_drewN | apply below_drew1) | exact HB.out)) hb); clear HO128; clear HB; have HO128 := n0_; have HB := n1_; clear n0_ n1_; (try clear hb); (try clear hb2); (try clear hk); (try clear hi)))
    go_loopg [4, 5] k (fun kq v4 v5 w' => ∃ (x4_1 : List ByteArray) (x5_1 : Int), v5 = .int .i64 x5_1 ∧ Aside0 (spec_StartOrder.l0 kq l0 x4_1 x5_1 = some (r1, r2)) ∧ Aside0 (kq ≤ k) ∧ Aside0 (Kd.R Kd.string 9 w' w.heap.size (fun _ => True) v4 x4_1) ∧ Aside0 (Below w.heap.size w w'))
    case atStart => exact ⟨(y126), (0), (by first | rfl | (simp; done) | (simp [*]; done)), H', ⟨Nat.le_refl _⟩, ⟨by (with_reducible repeat (first | apply Kd.R_alloc | apply Kd.R_drewN | apply Kd.R_drew)); exact HO128.out⟩, ⟨by repeat (first | (with_reducible first | exact HB.out | apply below_alloc | apply pw_below_drewN | apply below_drew1) | exact HB.out)⟩⟩
    case round =>
      clear H'
      try clear c1
      try clear c2
      try clear p2
      try clear c3
      obtain ⟨x4_1, x5_1, rfl, HA, HK1, HO_4, HB⟩ := hrel
      cases gk with
      | zero => exact absurd HA.out (by simp [spec_StartOrder.l0])
      | succ k1 =>
        have H := HA.out
        clear HA
        simp only [spec_StartOrder.l0] at H
        by_cases c7 : x5_1 < (l0.length : Int)
        · rw [if_pos c7] at H
          have c7b0 : decide (x5_1 < (l0.length : Int)) = true := decide_eq_true c7
          clear c7
          have H' := Aside0.mk H
          clear H
          go_wp2
          go_loopg [4, 6] k1 (fun kq v4 v6 w' => ∃ (x4_2 : List ByteArray) (x6_2 : Int), v6 = .int .i64 x6_2 ∧ Aside0 (spec_StartOrder.l1 kq l0 x4_2 x5_1 x6_2 = some (r1, r2)) ∧ Aside0 (kq ≤ k1) ∧ Aside0 (Kd.R Kd.string 9 w' w.heap.size (fun _ => True) v4 x4_2) ∧ Aside0 (Below w.heap.size w w'))
          case atStart => exact ⟨(x4_1), (0), (by first | rfl | (simp; done) | (simp [*]; done)), H', ⟨Nat.le_refl _⟩, ⟨by (with_reducible repeat (first | apply Kd.R_alloc | apply Kd.R_drewN | apply Kd.R_drew)); exact HO_4.out⟩, ⟨by repeat (first | (with_reducible first | exact HB.out | apply below_alloc | apply pw_below_drewN | apply below_drew1) | exact HB.out)⟩⟩
          case round =>
            clear H'
            try clear c1
            try clear c2
            try clear p2
            try clear c3
            try clear c7
            try clear c7b0
            try clear p2
            obtain ⟨x4_2, x6_2, rfl, HA, HK2, HO_4, HB⟩ := hrel
            cases gk with
            | zero => exact absurd HA.out (by simp [spec_StartOrder.l1])
            | succ k2 =>
              have H := HA.out
              clear HA
              simp only [spec_StartOrder.l1] at H
              by_cases c8 : x6_2 < (l0.length : Int)
              · rw [if_pos c8] at H
                have c8b0 : decide (x6_2 < (l0.length : Int)) = true := decide_eq_true c8
                clear c8
                by_cases c9 : 0 ≤ x6_2
                · rw [if_pos c9] at H
                  have c9b0 : decide (0 ≤ x6_2) = true := decide_eq_true c9
                  clear c9
                  replace H := Option.bind_eq_some_iff.mp H
                  obtain ⟨t131, A100, H⟩ := H
                  replace H : (if t131 = true then (spec_StartOrder.l1 k2 l0 x4_2 x5_1 (wrap64 (x6_2 + 1))) else ((spec_l18Ready.f k2 l0 ((rd_T32 l0 x6_2).f0) ((rd_T32 l0 x6_2).f1) ((rd_T32 l0 x6_2).f2) ((rd_T32 l0 x6_2).f3) ((rd_T32 l0 x6_2).f4) x4_2).bind fun t133 => (if t133 = true then (if x4_2.length < 8796093022208 then (spec_StartOrder.l0 k2 l0 (x4_2 ++ [(rd_T32 l0 x6_2).f0]) (wrap64 (x5_1 + 1))) else (none)) else (spec_StartOrder.l1 k2 l0 x4_2 x5_1 (wrap64 (x6_2 + 1)))))) = some (r1, r2) := H
                  have A10 := Aside0.mk A100
                  clear A100
                  by_cases c11 : t131 = true
                  · subst c11
                    have H1 : (spec_StartOrder.l1 k2 l0 x4_2 x5_1 (wrap64 (x6_2 + 1))) = some (r1, r2) := by rw [if_pos rfl] at H; exact H
                    clear H
                    have H := H1
                    clear H1
                    have H' := Aside0.mk H
                    clear H
                    have p130 : 0 ≤ (x6_2 : Int) := of_decide_eq_true (by first | (with_reducible assumption) | assumption)
                    have q130 : x6_2 < (l0.length : Int) := of_decide_eq_true (by first | (with_reducible assumption) | assumption)
                    obtain ⟨ad130, A130_1, c130_1, A130_2, c130_2, e130, hx130_0, hx130_1, hx130_2, hx130_3, hx130_4, hl130_1, hi130_1, hl130_2, hi130_2⟩ := at_T32 HR0.out x6_2 p130 q130
                    cases e130
                    replace hx130_0 := (HB.out.cell (World.block_lt_of_cell? w _ hx130_0)).trans hx130_0
                    replace hx130_1 := (HB.out.cell (World.block_lt_of_cell? w _ hx130_1)).trans hx130_1
                    replace hx130_2 := (HB.out.cell (World.block_lt_of_cell? w _ hx130_2)).trans hx130_2
                    replace hx130_3 := (HB.out.cell (World.block_lt_of_cell? w _ hx130_3)).trans hx130_3
                    replace hx130_4 := (HB.out.cell (World.block_lt_of_cell? w _ hx130_4)).trans hx130_4
                    have HR130_1 := Aside0.mk hi130_1
                    have HC130_1 := Aside0.mk hl130_1
                    clear hi130_1 hl130_1
                    have HR130_2 := Aside0.mk hi130_2
                    have HC130_2 := Aside0.mk hl130_2
                    clear hi130_2 hl130_2
                    replace p130 := eq_true p130
                    replace q130 := eq_true q130
                    obtain ⟨Ao12, co12, eo12⟩ := Kd.R_slice HO_4.out
                    subst eo12
                    go_wp2_with (first | ((with_reducible refine gate_callee (f := 51) rfl ?_); refine goesL_ (some 30) rfl rfl Try.func51 (by kernel_rfl) rfl #[.slice Ao12 x4_2.length co12, .string ((rd_T32 l0 x6_2).f0)] rfl (by (try simp only [List.map_toArray, List.map_cons, List.map_nil]); first | done | rfl | (simp only [List.length_drop, List.length_take]; rfl)) ?_; (with_reducible refine (spec_l3Has.calls k2 _ _ x4_2 ((rd_T32 l0 x6_2).f0) true _ ?side1 ?side2 A10.out).mono ?_); (case side1 => repeat (first | exact (Kd.R_reads' HO_4.out).2.2 | (with_reducible refine Kd.C_alloc ?_ _) | (with_reducible refine Kd.C_drewN ?_ _) | (with_reducible refine Kd.C_drew ?_))); (case side2 => exact (Kd.R_reads' HO_4.out).2.1); rintro e w' ⟨rfl, ⟨nd, rfl⟩⟩; refine ⟨_, rfl, ?_⟩))
                    go_roundg k2
                    case measure => have := HK1.out; have := HK2.out; omega
                    case rel => exact ⟨(x4_2), (wrap64 (x6_2 + 1)), (by first | rfl | (simp; done) | (simp [*]; done)), H', ⟨by have := HK1.out; have := HK2.out; omega⟩, ⟨by (with_reducible repeat (first | apply Kd.R_alloc | apply Kd.R_drewN | apply Kd.R_drew)); exact HO_4.out⟩, ⟨by repeat (first | (with_reducible first | exact HB.out | apply below_alloc | apply pw_below_drewN | apply below_drew1) | exact HB.out)⟩⟩
                  · replace c11 := Bool.eq_false_iff.mpr c11
                    subst c11
                    have H1 : ((spec_l18Ready.f k2 l0 ((rd_T32 l0 x6_2).f0) ((rd_T32 l0 x6_2).f1) ((rd_T32 l0 x6_2).f2) ((rd_T32 l0 x6_2).f3) ((rd_T32 l0 x6_2).f4) x4_2).bind fun t133 => (if t133 = true then (if x4_2.length < 8796093022208 then (spec_StartOrder.l0 k2 l0 (x4_2 ++ [(rd_T32 l0 x6_2).f0]) (wrap64 (x5_1 + 1))) else (none)) else (spec_StartOrder.l1 k2 l0 x4_2 x5_1 (wrap64 (x6_2 + 1))))) = some (r1, r2) := by rw [if_neg (show ¬ (false = true) by decide)] at H; exact H
                    clear H
                    have H := H1
                    clear H1
                    replace H := Option.bind_eq_some_iff.mp H
                    obtain ⟨t133, A130, H⟩ := H
                    replace H : (if t133 = true then (if x4_2.length < 8796093022208 then (spec_StartOrder.l0 k2 l0 (x4_2 ++ [(rd_T32 l0 x6_2).f0]) (wrap64 (x5_1 + 1))) else (none)) else (spec_StartOrder.l1 k2 l0 x4_2 x5_1 (wrap64 (x6_2 + 1)))) = some (r1, r2) := H
                    have A13 := Aside0.mk A130
                    clear A130
                    by_cases c14 : t133 = true
                    · subst c14
                      have H1 : (if x4_2.length < 8796093022208 then (spec_StartOrder.l0 k2 l0 (x4_2 ++ [(rd_T32 l0 x6_2).f0]) (wrap64 (x5_1 + 1))) else (none)) = some (r1, r2) := by rw [if_pos rfl] at H; exact H
                      clear H
                      have H := H1
                      clear H1
                      by_cases c15 : x4_2.length < 8796093022208
                      · rw [if_pos c15] at H
                        have LMc15 := Aside0.mk c15
                        clear c15
                        obtain ⟨y135, hy135⟩ : ∃ y_ : List ByteArray, y_ = (x4_2 ++ [(rd_T32 l0 x6_2).f0]) := ⟨_, rfl⟩
                        replace H : (spec_StartOrder.l0 k2 l0 y135 (wrap64 (x5_1 + 1))) = some (r1, r2) := by first | (rw [hy135]; with_reducible exact H) | (have H2_ := (Option.bind_some _ _).symm.trans H; rw [hy135]; with_reducible exact H2_) | (have H2_ := (Option.bind_some _ _).symm.trans H; with_reducible exact H2_) | with_reducible exact H | (rw [hy135]; exact H) | exact H
                        have Ny135 := Aside0.mk hy135
                        clear hy135
                        have H' := Aside0.mk H
                        clear H
                        have p130 : 0 ≤ (x6_2 : Int) := of_decide_eq_true (by first | (with_reducible assumption) | assumption)
                        have q130 : x6_2 < (l0.length : Int) := of_decide_eq_true (by first | (with_reducible assumption) | assumption)
                        obtain ⟨ad130, A130_1, c130_1, A130_2, c130_2, e130, hx130_0, hx130_1, hx130_2, hx130_3, hx130_4, hl130_1, hi130_1, hl130_2, hi130_2⟩ := at_T32 HR0.out x6_2 p130 q130
                        cases e130
                        replace hx130_0 := (HB.out.cell (World.block_lt_of_cell? w _ hx130_0)).trans hx130_0
                        replace hx130_1 := (HB.out.cell (World.block_lt_of_cell? w _ hx130_1)).trans hx130_1
                        replace hx130_2 := (HB.out.cell (World.block_lt_of_cell? w _ hx130_2)).trans hx130_2
                        replace hx130_3 := (HB.out.cell (World.block_lt_of_cell? w _ hx130_3)).trans hx130_3
                        replace hx130_4 := (HB.out.cell (World.block_lt_of_cell? w _ hx130_4)).trans hx130_4
                        have HR130_1 := Aside0.mk hi130_1
                        have HC130_1 := Aside0.mk hl130_1
                        clear hi130_1 hl130_1
                        have HR130_2 := Aside0.mk hi130_2
                        have HC130_2 := Aside0.mk hl130_2
                        clear hi130_2 hl130_2
                        replace p130 := eq_true p130
                        replace q130 := eq_true q130
                        obtain ⟨Ao16, co16, eo16⟩ := Kd.R_slice HO_4.out
                        subst eo16
                        go_wp2_with (first | ((with_reducible refine gate_callee (f := 51) rfl ?_); refine goesL_ (some 30) rfl rfl Try.func51 (by kernel_rfl) rfl #[.slice Ao16 x4_2.length co16, .string ((rd_T32 l0 x6_2).f0)] rfl (by (try simp only [List.map_toArray, List.map_cons, List.map_nil]); first | done | rfl | (simp only [List.length_drop, List.length_take]; rfl)) ?_; (with_reducible refine (spec_l3Has.calls k2 _ _ x4_2 ((rd_T32 l0 x6_2).f0) false _ ?side1 ?side2 A10.out).mono ?_); (case side1 => repeat (first | exact (Kd.R_reads' HO_4.out).2.2 | (with_reducible refine Kd.C_alloc ?_ _) | (with_reducible refine Kd.C_drewN ?_ _) | (with_reducible refine Kd.C_drew ?_))); (case side2 => exact (Kd.R_reads' HO_4.out).2.1); rintro e w' ⟨rfl, ⟨nd, rfl⟩⟩; refine ⟨_, rfl, ?_⟩; have p132 : 0 ≤ (x6_2 : Int) := of_decide_eq_true (by first | (with_reducible assumption) | assumption); have q132 : x6_2 < (l0.length : Int) := of_decide_eq_true (by first | (with_reducible assumption) | assumption); obtain ⟨ad132, A132_1, c132_1, A132_2, c132_2, e132, hx132_0, hx132_1, hx132_2, hx132_3, hx132_4, hl132_1, hi132_1, hl132_2, hi132_2⟩ := at_T32 HR0.out x6_2 p132 q132; obtain rfl : ad130 = ad132 := (by injection e132); replace hx132_0 := (HB.out.cell (World.block_lt_of_cell? w _ hx132_0)).trans hx132_0; replace hx132_1 := (HB.out.cell (World.block_lt_of_cell? w _ hx132_1)).trans hx132_1; replace hx132_2 := (HB.out.cell (World.block_lt_of_cell? w _ hx132_2)).trans hx132_2; replace hx132_3 := (HB.out.cell (World.block_lt_of_cell? w _ hx132_3)).trans hx132_3; replace hx132_4 := (HB.out.cell (World.block_lt_of_cell? w _ hx132_4)).trans hx132_4; have HR132_1 := Aside0.mk hi132_1; have HC132_1 := Aside0.mk hl132_1; clear hi132_1 hl132_1; have HR132_2 := Aside0.mk hi132_2; have HC132_2 := Aside0.mk hl132_2; clear hi132_2 hl132_2; replace p132 := eq_true p132; replace q132 := eq_true q132; have ea_ := Option.some.inj (hx130_1.symm.trans hx132_1); injection ea_ with ea_ en_ ec_; subst ea_; subst ec_; clear en_; have ea_ := Option.some.inj (hx130_2.symm.trans hx132_2); injection ea_ with ea_ en_ ec_; subst ea_; subst ec_; clear en_) | (go_at_call 58; (with_reducible refine (spec_l18Ready.calls k2 _ _ l0 ((rd_T32 l0 x6_2).f0) _ _ ((rd_T32 l0 x6_2).f1) _ _ ((rd_T32 l0 x6_2).f2) ((rd_T32 l0 x6_2).f3) ((rd_T32 l0 x6_2).f4) _ _ x4_2 true _ ?side1 ?side2 ?side3 ?side4 ?side5 ?side6 ?side7 ?side8 A13.out).mono ?_); (case side1 => repeat (first | exact (Kd.C_below HR0.out (by repeat (first | (with_reducible first | exact HB.out | apply below_alloc | apply pw_below_drewN | apply below_drew1) | exact HB.out))) | (with_reducible refine Kd.C_alloc ?_ _) | (with_reducible refine Kd.C_drewN ?_ _) | (with_reducible refine Kd.C_drew ?_))); (case side2 => exact HC0.out); (case side3 => repeat (first | exact (Kd.C_below HR132_1.out (by repeat (first | (with_reducible first | exact HB.out | apply below_alloc | apply pw_below_drewN | apply below_drew1) | exact HB.out))) | (with_reducible refine Kd.C_alloc ?_ _) | (with_reducible refine Kd.C_drewN ?_ _) | (with_reducible refine Kd.C_drew ?_))); (case side4 => exact HC132_1.out); (case side5 => repeat (first | exact (Kd.C_below HR132_2.out (by repeat (first | (with_reducible first | exact HB.out | apply below_alloc | apply pw_below_drewN | apply below_drew1) | exact HB.out))) | (with_reducible refine Kd.C_alloc ?_ _) | (with_reducible refine Kd.C_drewN ?_ _) | (with_reducible refine Kd.C_drew ?_))); (case side6 => exact HC132_2.out); (case side7 => repeat (first | exact (Kd.R_reads' HO_4.out).2.2 | (with_reducible refine Kd.C_alloc ?_ _) | (with_reducible refine Kd.C_drewN ?_ _) | (with_reducible refine Kd.C_drew ?_))); (case side8 => exact (Kd.R_reads' HO_4.out).2.1); rintro e w17 ⟨rfl, hb⟩; have n0_ := Aside0.mk (Kd.R_below (by (with_reducible repeat (first | apply Kd.R_alloc | apply Kd.R_drewN | apply Kd.R_drew)); exact HO_4.out) hb); have n1_ := Aside0.mk (below_step (by repeat (first | (with_reducible first | exact HB.out | apply below_alloc | apply pw_below_drewN | apply below_drew1) | exact HB.out)) hb); clear HO_4; clear HB; have HO_4 := n0_; have HB := n1_; clear n0_ n1_; (try clear hb); (try clear hb2); (try clear hk); (try clear hi); have p134 : 0 ≤ (x6_2 : Int) := of_decide_eq_true (by first | (with_reducible assumption) | assumption); have q134 : x6_2 < (l0.length : Int) := of_decide_eq_true (by first | (with_reducible assumption) | assumption); obtain ⟨ad134, A134_1, c134_1, A134_2, c134_2, e134, hx134_0, hx134_1, hx134_2, hx134_3, hx134_4, hl134_1, hi134_1, hl134_2, hi134_2⟩ := at_T32 HR0.out x6_2 p134 q134; obtain rfl : ad130 = ad134 := (by injection e134); replace hx134_0 := (HB.out.cell (World.block_lt_of_cell? w _ hx134_0)).trans hx134_0; replace hx134_1 := (HB.out.cell (World.block_lt_of_cell? w _ hx134_1)).trans hx134_1; replace hx134_2 := (HB.out.cell (World.block_lt_of_cell? w _ hx134_2)).trans hx134_2; replace hx134_3 := (HB.out.cell (World.block_lt_of_cell? w _ hx134_3)).trans hx134_3; replace hx134_4 := (HB.out.cell (World.block_lt_of_cell? w _ hx134_4)).trans hx134_4; have HR134_1 := Aside0.mk hi134_1; have HC134_1 := Aside0.mk hl134_1; clear hi134_1 hl134_1; have HR134_2 := Aside0.mk hi134_2; have HC134_2 := Aside0.mk hl134_2; clear hi134_2 hl134_2; replace p134 := eq_true p134; replace q134 := eq_true q134) | ((with_reducible refine gate_builtin (b := .append) (xs := #[.tmp 41, .tmp 47]) rfl ?_); at_builtin; refine Kd.R_append Kd.string (w0 := w) w.heap.size rfl (.tmp 41) (.tmp 47) 25 9 (.string ⟨#[]⟩) 16 rfl Try.underlying25 info9 rfl (by decide) (by omega) (.slice Ao16 x4_2.length co16) x4_2 ((rd_T32 l0 x6_2).f0) [.string ((rd_T32 l0 x6_2).f0)] (fun _ => True) (fun _ => False) rfl rfl ?aP (fun _ hk => hk.elim) ?aF ?aO ?aB ?aS ?aL ?_; (case aP => exact rfl); (case aB => exact (by repeat (first | (with_reducible first | exact HB.out | apply below_alloc | apply pw_below_drewN | apply below_drew1) | exact HB.out))); (case aF => exact (fun _ _ => trivial)); (case aO => exact (by (with_reducible repeat (first | apply Kd.R_alloc | apply Kd.R_drewN | apply Kd.R_drew)); exact HO_4.out)); (case aS => exact (below_size (by repeat (first | (with_reducible first | exact HB.out | apply below_alloc | apply pw_below_drewN | apply below_drew1) | exact HB.out)))); (case aL => have := LMc15.out; omega); intro v136 w18 ho hb hg hat; rw [← Ny135.out] at ho; have n0_ := Aside0.mk (hb); have n1_ := Aside0.mk (ho); clear HB; clear HO_4; have HB := n0_; have HO137 := n1_; clear n0_ n1_; clear ho hb hg hat))
                        go_roundg k2
                        case measure => have := HK1.out; have := HK2.out; omega
                        case rel => exact ⟨(y135), (wrap64 (x5_1 + 1)), (by first | rfl | (simp; done) | (simp [*]; done)), H', ⟨by have := HK1.out; have := HK2.out; omega⟩, ⟨by (with_reducible repeat (first | apply Kd.R_alloc | apply Kd.R_drewN | apply Kd.R_drew)); exact HO137.out⟩, ⟨by repeat (first | (with_reducible first | exact HB.out | apply below_alloc | apply pw_below_drewN | apply below_drew1) | exact HB.out)⟩⟩
                      · rw [if_neg c15] at H
                        exact absurd H (by simp)
                    · replace c14 := Bool.eq_false_iff.mpr c14
                      subst c14
                      have H1 : (spec_StartOrder.l1 k2 l0 x4_2 x5_1 (wrap64 (x6_2 + 1))) = some (r1, r2) := by rw [if_neg (show ¬ (false = true) by decide)] at H; exact H
                      clear H
                      have H := H1
                      clear H1
                      have H' := Aside0.mk H
                      clear H
                      have p130 : 0 ≤ (x6_2 : Int) := of_decide_eq_true (by first | (with_reducible assumption) | assumption)
                      have q130 : x6_2 < (l0.length : Int) := of_decide_eq_true (by first | (with_reducible assumption) | assumption)
                      obtain ⟨ad130, A130_1, c130_1, A130_2, c130_2, e130, hx130_0, hx130_1, hx130_2, hx130_3, hx130_4, hl130_1, hi130_1, hl130_2, hi130_2⟩ := at_T32 HR0.out x6_2 p130 q130
                      cases e130
                      replace hx130_0 := (HB.out.cell (World.block_lt_of_cell? w _ hx130_0)).trans hx130_0
                      replace hx130_1 := (HB.out.cell (World.block_lt_of_cell? w _ hx130_1)).trans hx130_1
                      replace hx130_2 := (HB.out.cell (World.block_lt_of_cell? w _ hx130_2)).trans hx130_2
                      replace hx130_3 := (HB.out.cell (World.block_lt_of_cell? w _ hx130_3)).trans hx130_3
                      replace hx130_4 := (HB.out.cell (World.block_lt_of_cell? w _ hx130_4)).trans hx130_4
                      have HR130_1 := Aside0.mk hi130_1
                      have HC130_1 := Aside0.mk hl130_1
                      clear hi130_1 hl130_1
                      have HR130_2 := Aside0.mk hi130_2
                      have HC130_2 := Aside0.mk hl130_2
                      clear hi130_2 hl130_2
                      replace p130 := eq_true p130
                      replace q130 := eq_true q130
                      obtain ⟨Ao19, co19, eo19⟩ := Kd.R_slice HO_4.out
                      subst eo19
                      go_wp2_with (first | ((with_reducible refine gate_callee (f := 51) rfl ?_); refine goesL_ (some 30) rfl rfl Try.func51 (by kernel_rfl) rfl #[.slice Ao19 x4_2.length co19, .string ((rd_T32 l0 x6_2).f0)] rfl (by (try simp only [List.map_toArray, List.map_cons, List.map_nil]); first | done | rfl | (simp only [List.length_drop, List.length_take]; rfl)) ?_; (with_reducible refine (spec_l3Has.calls k2 _ _ x4_2 ((rd_T32 l0 x6_2).f0) false _ ?side1 ?side2 A10.out).mono ?_); (case side1 => repeat (first | exact (Kd.R_reads' HO_4.out).2.2 | (with_reducible refine Kd.C_alloc ?_ _) | (with_reducible refine Kd.C_drewN ?_ _) | (with_reducible refine Kd.C_drew ?_))); (case side2 => exact (Kd.R_reads' HO_4.out).2.1); rintro e w' ⟨rfl, ⟨nd, rfl⟩⟩; refine ⟨_, rfl, ?_⟩; have p132 : 0 ≤ (x6_2 : Int) := of_decide_eq_true (by first | (with_reducible assumption) | assumption); have q132 : x6_2 < (l0.length : Int) := of_decide_eq_true (by first | (with_reducible assumption) | assumption); obtain ⟨ad132, A132_1, c132_1, A132_2, c132_2, e132, hx132_0, hx132_1, hx132_2, hx132_3, hx132_4, hl132_1, hi132_1, hl132_2, hi132_2⟩ := at_T32 HR0.out x6_2 p132 q132; obtain rfl : ad130 = ad132 := (by injection e132); replace hx132_0 := (HB.out.cell (World.block_lt_of_cell? w _ hx132_0)).trans hx132_0; replace hx132_1 := (HB.out.cell (World.block_lt_of_cell? w _ hx132_1)).trans hx132_1; replace hx132_2 := (HB.out.cell (World.block_lt_of_cell? w _ hx132_2)).trans hx132_2; replace hx132_3 := (HB.out.cell (World.block_lt_of_cell? w _ hx132_3)).trans hx132_3; replace hx132_4 := (HB.out.cell (World.block_lt_of_cell? w _ hx132_4)).trans hx132_4; have HR132_1 := Aside0.mk hi132_1; have HC132_1 := Aside0.mk hl132_1; clear hi132_1 hl132_1; have HR132_2 := Aside0.mk hi132_2; have HC132_2 := Aside0.mk hl132_2; clear hi132_2 hl132_2; replace p132 := eq_true p132; replace q132 := eq_true q132; have ea_ := Option.some.inj (hx130_1.symm.trans hx132_1); injection ea_ with ea_ en_ ec_; subst ea_; subst ec_; clear en_; have ea_ := Option.some.inj (hx130_2.symm.trans hx132_2); injection ea_ with ea_ en_ ec_; subst ea_; subst ec_; clear en_) | (go_at_call 58; (with_reducible refine (spec_l18Ready.calls k2 _ _ l0 ((rd_T32 l0 x6_2).f0) _ _ ((rd_T32 l0 x6_2).f1) _ _ ((rd_T32 l0 x6_2).f2) ((rd_T32 l0 x6_2).f3) ((rd_T32 l0 x6_2).f4) _ _ x4_2 false _ ?side1 ?side2 ?side3 ?side4 ?side5 ?side6 ?side7 ?side8 A13.out).mono ?_); (case side1 => repeat (first | exact (Kd.C_below HR0.out (by repeat (first | (with_reducible first | exact HB.out | apply below_alloc | apply pw_below_drewN | apply below_drew1) | exact HB.out))) | (with_reducible refine Kd.C_alloc ?_ _) | (with_reducible refine Kd.C_drewN ?_ _) | (with_reducible refine Kd.C_drew ?_))); (case side2 => exact HC0.out); (case side3 => repeat (first | exact (Kd.C_below HR132_1.out (by repeat (first | (with_reducible first | exact HB.out | apply below_alloc | apply pw_below_drewN | apply below_drew1) | exact HB.out))) | (with_reducible refine Kd.C_alloc ?_ _) | (with_reducible refine Kd.C_drewN ?_ _) | (with_reducible refine Kd.C_drew ?_))); (case side4 => exact HC132_1.out); (case side5 => repeat (first | exact (Kd.C_below HR132_2.out (by repeat (first | (with_reducible first | exact HB.out | apply below_alloc | apply pw_below_drewN | apply below_drew1) | exact HB.out))) | (with_reducible refine Kd.C_alloc ?_ _) | (with_reducible refine Kd.C_drewN ?_ _) | (with_reducible refine Kd.C_drew ?_))); (case side6 => exact HC132_2.out); (case side7 => repeat (first | exact (Kd.R_reads' HO_4.out).2.2 | (with_reducible refine Kd.C_alloc ?_ _) | (with_reducible refine Kd.C_drewN ?_ _) | (with_reducible refine Kd.C_drew ?_))); (case side8 => exact (Kd.R_reads' HO_4.out).2.1); rintro e w20 ⟨rfl, hb⟩; have n0_ := Aside0.mk (Kd.R_below (by (with_reducible repeat (first | apply Kd.R_alloc | apply Kd.R_drewN | apply Kd.R_drew)); exact HO_4.out) hb); have n1_ := Aside0.mk (below_step (by repeat (first | (with_reducible first | exact HB.out | apply below_alloc | apply pw_below_drewN | apply below_drew1) | exact HB.out)) hb); clear HO_4; clear HB; have HO_4 := n0_; have HB := n1_; clear n0_ n1_; (try clear hb); (try clear hb2); (try clear hk); (try clear hi)))
                      go_roundg k2
                      case measure => have := HK1.out; have := HK2.out; omega
                      case rel => exact ⟨(x4_2), (wrap64 (x6_2 + 1)), (by first | rfl | (simp; done) | (simp [*]; done)), H', ⟨by have := HK1.out; have := HK2.out; omega⟩, ⟨by (with_reducible repeat (first | apply Kd.R_alloc | apply Kd.R_drewN | apply Kd.R_drew)); exact HO_4.out⟩, ⟨by repeat (first | (with_reducible first | exact HB.out | apply below_alloc | apply pw_below_drewN | apply below_drew1) | exact HB.out)⟩⟩
                · rw [if_neg c9] at H
                  exact absurd H (by simp)
              · rw [if_neg c8] at H
                have c8b0 : decide (x6_2 < (l0.length : Int)) = false := decide_eq_false c8
                clear c8
                have H' := Aside0.mk H
                clear H
                go_wp2
                go_roundg k2
                case measure => have := HK1.out; have := HK2.out; omega
                case rel => exact ⟨(x4_2), (wrap64 (x5_1 + 1)), (by first | rfl | (simp; done) | (simp [*]; done)), H', ⟨by have := HK1.out; have := HK2.out; omega⟩, ⟨by (with_reducible repeat (first | apply Kd.R_alloc | apply Kd.R_drewN | apply Kd.R_drew)); exact HO_4.out⟩, ⟨by repeat (first | (with_reducible first | exact HB.out | apply below_alloc | apply pw_below_drewN | apply below_drew1) | exact HB.out)⟩⟩
        · rw [if_neg c7] at H
          have c7b0 : decide (x5_1 < (l0.length : Int)) = false := decide_eq_false c7
          clear c7
          simp only [Option.some.injEq, Prod.mk.injEq] at H
          obtain ⟨rfl, rfl⟩ := H
          obtain ⟨Ao21, co21, eo21⟩ := Kd.R_slice HO_4.out
          subst eo21
          go_wp2
          go_ret2
          exact ⟨_, by first | rfl | (simp [errW_none, errW_some] <;> rfl) | (simp [*, errW_none, errW_some] <;> rfl), by (with_reducible repeat (first | apply Kd.R_alloc | apply Kd.R_drewN | apply Kd.R_drew)); exact HO_4.out, by repeat (first | (with_reducible first | exact HB.out | apply below_alloc | apply pw_below_drewN | apply below_drew1) | exact HB.out)⟩
  · replace c3 := Bool.eq_false_iff.mpr c3
    subst c3
    have H1 : (some (y126, false)) = some (r1, r2) := by rw [if_neg (show ¬ (false = true) by decide)] at H; exact H
    clear H
    have H := H1
    clear H1
    simp only [Option.some.injEq, Prod.mk.injEq] at H
    obtain ⟨rfl, rfl⟩ := H
    go_enter Try.func27, Try.ntmps27
    go_wp2_with (first | ((with_reducible refine gate_dst (N := 7) rfl ?_); refine Kd.R_lit Kd.string _ 9 ?hg (N := 7) ?hd (xs := ([] : List ByteArray)) (inner := []) (ok := fun _ => True) (okp := fun _ => True) ?hr ?hp (fun _ hk => hk) trivial (Below.refl _ _) (Nat.le_refl _) (by simp) ?_; (case hd => rfl); (case hg => rfl); (case hr => first | (go_simp; done) | (go_simp; rfl)); (case hp => exact (Reps.none _ _)); intro v127 w22 ho23 hb hg_ hnew_; clear hg_ hnew_; (first | rw [← Ny126.out] at ho23 | (simp only [Int.reduceToNat] at ho23; rw [← Ny126.out] at ho23)); have n0_ := Aside0.mk (Kd.R_lower ho23 (below_size (by repeat (first | (with_reducible first | exact HB.out | apply below_alloc | apply pw_below_drewN | apply below_drew1) | exact HB.out)))); have n1_ := Aside0.mk (below_step (by repeat (first | (with_reducible first | exact HB.out | apply below_alloc | apply pw_below_drewN | apply below_drew1) | exact HB.out)) hb); clear HB; have HO128 := n0_; have HB := n1_; clear n0_ n1_; clear hb ho23) | ((with_reducible refine gate_callee (f := 13) rfl ?_); refine goesL_ (some 9) rfl rfl Try.func13 (by kernel_rfl) rfl #[.slice A0 l0.length c0] rfl (by (try simp only [List.map_toArray, List.map_cons, List.map_nil]); first | done | rfl | (simp only [List.length_drop, List.length_take]; rfl)) ?_; (with_reducible refine (spec_UnitsOk.calls _ _ l0 false _ ?side1 ?side2 A2.out).mono ?_); (case side1 => repeat (first | exact (Kd.C_below HR0.out HB.out) | (with_reducible refine Kd.C_alloc ?_ _) | (with_reducible refine Kd.C_drewN ?_ _) | (with_reducible refine Kd.C_drew ?_))); (case side2 => exact HC0.out); rintro e w24 ⟨rfl, hb⟩; refine ⟨_, rfl, ?_⟩; have n0_ := Aside0.mk (Kd.R_below (by (with_reducible repeat (first | apply Kd.R_alloc | apply Kd.R_drewN | apply Kd.R_drew)); exact HO128.out) hb); have n1_ := Aside0.mk (below_step (by repeat (first | (with_reducible first | exact HB.out | apply below_alloc | apply pw_below_drewN | apply below_drew1) | exact HB.out)) hb); clear HO128; clear HB; have HO128 := n0_; have HB := n1_; clear n0_ n1_; (try clear hb); (try clear hb2); (try clear hk); (try clear hi)))
    go_ret2
    exact ⟨_, by first | rfl | (simp [errW_none, errW_some] <;> rfl) | (simp [*, errW_none, errW_some] <;> rfl), by (with_reducible repeat (first | apply Kd.R_alloc | apply Kd.R_drewN | apply Kd.R_drew)); exact HO128.out, by repeat (first | (with_reducible first | exact HB.out | apply below_alloc | apply pw_below_drewN | apply below_drew1) | exact HB.out)⟩
end Go.Proofs.Ytnjmhlhlmokjnaa.G
namespace Go.Proofs.Ytnjmhlhlmokjnaa.G
open Go.RowKit Go.Proofs.YtnjmhlhlmokjnaaW.PrintWords Go.Proofs.YtnjmhlhlmokjnaaW.PrintLast
set_option linter.unusedVariables false
set_option linter.unusedSimpArgs false
theorem ready_l1 (us : List S32) (hu : us.length ≤ 100) (o : List ByteArray) (ho : o.length ≤ 1000) (f0 : ByteArray) (f1 f2 : List ByteArray) (f3 : ByteArray) (f4 : Bool) (h1 : f1.length ≤ 20) (d : Nat) : ∀ i : Nat, i + d = f1.length →
    Ev (fun k => spec_l18Ready.l1 k us o (i : Int) f0 f1 f2 f3 f4) (((f1.drop i).filter (hasU us)).all (fun x => decide (x ∈ o))) := by
  induction d with
  | zero =>
    intro i hi
    rw [List.drop_eq_nil_of_le (by omega)]
    exact Ev.step (f := fun _ => some true) (fun k => by rw [spec_l18Ready.l1, if_neg (by omega)]) (Ev.now _)
  | succ d ih =>
    intro i hi
    have hil : i < f1.length := by omega
    have hw : wrap64 ((i : Int) + 1) = ((i + 1 : Nat) : Int) := by rw [wrap_id (by omega) (by omega)]; omega
    have hx := ih (i + 1) (by omega)
    rw [List.drop_eq_getElem_cons hil, List.filter_cons]
    refine Ev.step (fun k => by rw [spec_l18Ready.l1, if_pos (by omega), if_pos (by omega), rdOf_nat _ f1 i hil, hw]) (Ev.bind (l18Find_ev us f1[i] (by omega)) ?_)
    cases hh : hasU us f1[i] with
    | false =>
      have hge : ¬ findU us f1[i] ≥ 0 := by rw [findU_ge, hh]; decide
      rw [if_neg (by decide)]
      exact Ev.congr (fun k => if_neg hge) hx
    | true =>
      have hge : findU us f1[i] ≥ 0 := by rw [findU_ge]; exact hh
      rw [if_pos rfl, List.all_cons]
      refine Ev.congr (fun k => if_pos hge) (Ev.bind (l3Has_ev o f1[i] (by omega)) ?_)
      cases decide (f1[i] ∈ o) with
      | false => exact Ev.congr (fun k => if_neg (by decide)) (Ev.now _)
      | true => exact Ev.congr (fun k => if_pos rfl) hx
theorem ready_l0 (us : List S32) (hu : us.length ≤ 100) (o : List ByteArray) (ho : o.length ≤ 1000) (f0 : ByteArray) (f1 f2 : List ByteArray) (f3 : ByteArray) (f4 : Bool) (h1 : f1.length ≤ 20) (h2 : f2.length ≤ 20) (d : Nat) : ∀ i : Nat, i + d = f2.length →
    Ev (fun k => spec_l18Ready.l0 k us o (i : Int) f0 f1 f2 f3 f4) ((f2.drop i ++ f1.filter (hasU us)).all (fun x => decide (x ∈ o))) := by
  induction d with
  | zero =>
    intro i hi
    rw [List.drop_eq_nil_of_le (by omega), List.nil_append]
    have := ready_l1 us hu o ho f0 f1 f2 f3 f4 h1 f1.length 0 (by omega)
    rw [List.drop_zero] at this
    exact Ev.step (fun k => by rw [spec_l18Ready.l0, if_neg (by omega)]; rfl) this
  | succ d ih =>
    intro i hi
    have hil : i < f2.length := by omega
    have hw : wrap64 ((i : Int) + 1) = ((i + 1 : Nat) : Int) := by rw [wrap_id (by omega) (by omega)]; omega
    have hx := ih (i + 1) (by omega)
    rw [List.drop_eq_getElem_cons hil, List.cons_append, List.all_cons]
    refine Ev.step (fun k => by rw [spec_l18Ready.l0, if_pos (by omega), if_pos (by omega), rdOf_nat _ f2 i hil, hw]) (Ev.bind (l3Has_ev o f2[i] (by omega)) ?_)
    cases decide (f2[i] ∈ o) with
    | false => exact Ev.congr (fun k => if_neg (by decide)) (Ev.now _)
    | true => exact Ev.congr (fun k => if_pos rfl) hx
theorem ready_ev (us : List S32) (hu : us.length ≤ 100) (o : List ByteArray) (ho : o.length ≤ 1000) (u : S32) (h1 : u.f1.length ≤ 20) (h2 : u.f2.length ≤ 20) : Ev (fun k => spec_l18Ready.f k us u.f0 u.f1 u.f2 u.f3 u.f4 o) ((waitsL us u).all (fun x => decide (x ∈ o))) := by
  have := ready_l0 us hu o ho u.f0 u.f1 u.f2 u.f3 u.f4 h1 h2 u.f2.length 0 (by omega)
  rw [List.drop_zero] at this
  exact this
theorem order_l1 (us : List S32) (hu : us.length ≤ 100) (hg : ∀ u ∈ us, u.f1.length ≤ 20 ∧ u.f2.length ≤ 20) (o : List ByteArray) (ho : o.length ≤ 100) (i : Nat) (hi : i < us.length) (R : List ByteArray × Bool)
    (next : ∀ o', (match us.find? (readyB us o) with | none => o' = o | some u => o' = o ++ [u.f0]) → Ev (fun k => spec_StartOrder.l0 k us o' ((i + 1 : Nat) : Int)) R) (d : Nat) : ∀ j : Nat, j + d = us.length → (∀ j' : Nat, j' < j → readyB us o (rd_T32 us (j' : Int)) = false) →
    Ev (fun k => spec_StartOrder.l1 k us o (i : Int) (j : Int)) R := by
  induction d with
  | zero =>
    intro j hj hno
    have hw : wrap64 ((i : Int) + 1) = ((i + 1 : Nat) : Int) := by rw [wrap_id (by omega) (by omega)]; omega
    have hn := find_none (us := us) (p := readyB us o) (fun j' h => hno j' (by omega))
    refine Ev.step (fun k => by rw [spec_StartOrder.l1, if_neg (by omega), hw]) (next o ?_)
    rw [hn]
  | succ d ih =>
    intro j hj hno
    have hjl : j < us.length := by omega
    have hmem : us[j] ∈ us := List.getElem_mem hjl
    have hwj : wrap64 ((j : Int) + 1) = ((j + 1 : Nat) : Int) := by rw [wrap_id (by omega) (by omega)]; omega
    have more : readyB us o us[j] = false → Ev (fun k => spec_StartOrder.l1 k us o (i : Int) ((j + 1 : Nat) : Int)) R := fun h => ih (j + 1) (by omega) (fun j' hj' => by
      rcases Nat.lt_or_ge j' j with h' | h'
      · exact hno j' h'
      · obtain rfl : j' = j := by omega
        rw [rd_T32_nat us j' hjl]; exact h)
    refine Ev.step (fun k => by rw [spec_StartOrder.l1, if_pos (by omega), if_pos (by omega), rd_T32_nat us j hjl, hwj]) (Ev.bind (l3Has_ev o us[j].f0 (by omega)) ?_)
    clear hwj
    by_cases hm : us[j].f0 ∈ o
    · rw [decide_eq_true hm]
      refine Ev.congr (fun k => if_pos rfl) (more ?_)
      unfold readyB
      rw [decide_eq_true hm]; rfl
    · rw [decide_eq_false hm]
      have hr : readyB us o us[j] = (waitsL us us[j]).all (fun x => decide (x ∈ o)) := by
        unfold readyB
        rw [decide_eq_false hm]; rfl
      refine Ev.congr (fun k => if_neg (by decide)) (Ev.bind (ready_ev us hu o (by omega) us[j] (hg _ hmem).1 (hg _ hmem).2) ?_)
      rw [← hr]
      cases hrd : readyB us o us[j] with
      | false => exact Ev.congr (fun k => if_neg (by decide)) (more hrd)
      | true =>
        have hw : wrap64 ((i : Int) + 1) = ((i + 1 : Nat) : Int) := by rw [wrap_id (by omega) (by omega)]; omega
        refine Ev.congr (fun k => by rw [if_pos rfl, if_pos (by omega), hw]) (next _ ?_)
        rw [find_at hjl hno hrd]
theorem order_l0 (us : List S32) (hu : us.length ≤ 100) (hg : ∀ u ∈ us, u.f1.length ≤ 20 ∧ u.f2.length ≤ 20) (d : Nat) : ∀ (i : Nat) (o : List ByteArray), i + d = us.length → o.length ≤ i →
    Ev (fun k => spec_StartOrder.l0 k us o (i : Int)) (orderL us d o, ((orderL us d o).length : Int) == (us.length : Int)) := by
  induction d with
  | zero =>
    intro i o hi ho
    exact Ev.step (f := fun _ => some (o, (o.length : Int) == (us.length : Int))) (fun k => by rw [spec_StartOrder.l0, if_neg (by omega)]) (Ev.now _)
  | succ d ih =>
    intro i o hi ho
    refine Ev.step (fun k => by rw [spec_StartOrder.l0, if_pos (by omega)]; rfl) (order_l1 us hu hg o (by omega) i (by omega) _ (fun o' ho' => ?_) us.length 0 (by omega) (fun j' h => absurd h (Nat.not_lt_zero _)))
    have e : orderL us (d + 1) o = orderL us d o' := by
      cases hf : us.find? (readyB us o) with
      | none =>
        rw [hf] at ho'
        subst ho'
        rw [show orderL us (d + 1) o' = o' by unfold orderL; rw [hf]]
        cases d with
        | zero => rfl
        | succ d => unfold orderL; rw [hf]
      | some u =>
        rw [hf] at ho'
        subst ho'
        show (match us.find? (readyB us o) with | none => o | some u => orderL us d (o ++ [u.f0])) = _
        rw [hf]
    rw [e]
    refine ih (i + 1) o' (by omega) ?_
    cases hf : us.find? (readyB us o) with
    | none => rw [hf] at ho'; subst ho'; omega
    | some u => rw [hf] at ho'; subst ho'; simp; omega
theorem specOrder_ev (us : List S32) : Ev (fun k => spec_StartOrder.f k us) (if unitsOkB us = true then (startL us, ((startL us).length : Int) == (us.length : Int)) else ([], false)) := by
  cases hok : unitsOkB us with
  | false =>
    refine Ev.congr (fun k => ?_) (Ev.now _)
    simp [spec_StartOrder.f, spec_UnitsOk.f, hok]
  | true =>
    have hg := good_of_ok hok
    rw [if_pos rfl]
    refine Ev.congr (f := fun k => spec_StartOrder.l0 k us [] 0) (fun k => ?_) (order_l0 us hg.len (fun u h => ⟨(unit_good (hg.unit u h)).after, (unit_good (hg.unit u h)).needs⟩) us.length 0 [] (by omega) (by simp))
    simp only [spec_StartOrder.f, spec_UnitsOk.f, hok, Option.bind_some, if_true]
end Go.Proofs.Ytnjmhlhlmokjnaa.G
namespace Go.Proofs.Ytnjmhlhlmokjnaa.G
open Go.RowKit Go.Maps Go.Proofs.YtnjmhlhlmokjnaaW.PrintWords Go.Proofs.YtnjmhlhlmokjnaaW.PrintLast Go.Proofs.YtnjmhlhlmokjnaaW.PrintMore
set_option linter.unusedVariables false
set_option linter.unusedSimpArgs false
theorem findFrom_bound (us : List S32) (x : ByteArray) (d : Nat) : ∀ i, i + d = us.length → findFrom us x i d < (us.length : Int) := by
  induction d with
  | zero => intro i hi; unfold findFrom; omega
  | succ d ih =>
    intro i hi
    unfold findFrom
    split
    · omega
    · exact ih (i + 1) (by omega)
theorem findU_bound (us : List S32) (x : ByteArray) : findU us x < (us.length : Int) := findFrom_bound us x us.length 0 (by omega)
theorem startL_inv (us : List S32) : OrdInv us (startL us) := by
  have key : ∀ n o, OrdInv us o → us.length - o.length = n → OrdInv us (orderL us n o) := by
    intro n
    induction n with
    | zero => intro o h _; exact h
    | succ n ih =>
      intro o h hn
      unfold orderL
      cases hf : us.find? (readyB us o) with
      | none => exact h
      | some u => exact ih _ (h.next hf) (by simp; omega)
  exact key _ [] (OrdInv.start us) (by simp)
def execU (us : List S32) (s : ByteArray) : ByteArray := (rd_T32 us (findU us s)).f3
def keepU (us : List S32) (s : ByteArray) : Bool := (rd_T32 us (findU us s)).f4
def restB (old new : List S32) (s : ByteArray) : Bool := hasU old s && !decide (execU old s = execU new s) && !keepU new s
def stopA (us : List S32) (c : Nat) : List ByteArray := ((us.take c).reverse.filter (fun u => !decide (u.f0 ∈ startL us))).map (·.f0)
def stopsL (us : List S32) : List ByteArray := stopA us us.length ++ (startL us).reverse
def stopAct (new : List S32) (running : List ByteArray) (s : ByteArray) : Option S55 := if decide (s ∈ running) && !hasU new s then some ⟨1, s⟩ else none
def startAct (old new : List S32) (running : List ByteArray) (s : ByteArray) : Option S55 := if decide (s ∈ running) then (if restB old new s then some ⟨3, s⟩ else none) else some ⟨2, s⟩
def planL (old new : List S32) (running : List ByteArray) : List S55 := (stopsL old).filterMap (stopAct new running) ++ (startL new).filterMap (startAct old new running)
def planF (old new : List S32) (run : List ByteArray) : List S55 := if unitsOkB old && unitsOkB new && decide (run.length ≤ 2000) then planL old new run else []
def impl_PlanUnits.f (old new : List S32) (run : List ByteArray) : Option (List S55) := some (planF old new run)
def spec_PlanUnits.f (old new : List S32) (run : List ByteArray) : Option (List S55) := some (planF old new run)
theorem stopA_len (us : List S32) (c : Nat) : (stopA us c).length ≤ us.length := by
  have h2 := List.length_filter_le (fun u : S32 => !decide (u.f0 ∈ startL us)) (us.take c).reverse
  unfold stopA
  simp only [List.length_map, List.length_reverse, List.length_take] at h2 ⊢
  omega
theorem stopsL_len (us : List S32) : (stopsL us).length ≤ us.length + us.length := by
  have h1 := (startL_inv us).len
  have h2 := stopA_len us us.length
  unfold stopsL
  simp only [List.length_append, List.length_reverse]
  omega
theorem hasU_start {us : List S32} {s : ByteArray} (h : s ∈ startL us) : hasU us s = true := decide_eq_true ((startL_inv us).sub s h)
theorem stopA_step {us : List S32} {c : Nat} (h : c < us.length) : stopA us (c + 1) = (if decide (us[c].f0 ∈ startL us) then [] else [us[c].f0]) ++ stopA us c := by
  unfold stopA
  rw [List.take_succ_eq_append_getElem h, List.reverse_append, List.reverse_singleton, List.singleton_append, List.filter_cons]
  cases decide (us[c].f0 ∈ startL us) <;> simp
theorem rev_step {o : List ByteArray} {c : Nat} (h : c < o.length) : (o.take (c + 1)).reverse = [o[c]] ++ (o.take c).reverse := by
  rw [List.take_succ_eq_append_getElem h, List.reverse_append, List.reverse_singleton]
theorem fm_step {f : ByteArray → Option S55} {l : List ByteArray} {i : Nat} (h : i < l.length) : (l.take (i + 1)).filterMap f = (l.take i).filterMap f ++ (f l[i]).toList := by
  rw [List.take_succ_eq_append_getElem h, List.filterMap_append]
  cases e : f l[i] <;> simp [List.filterMap, e]
theorem cell_new34 (w : World) {s a b c d : Value} : (w.alloc (.cells #[s, a, b, c, d] 32)).cell? ⟨w.heap.size, 3, none⟩ = some c ∧ (w.alloc (.cells #[s, a, b, c, d] 32)).cell? ⟨w.heap.size, 4, none⟩ = some d := by
  have := blk_new w (.cells #[s, a, b, c, d] 32)
  unfold World.cell?
  rw [this]
  exact ⟨rfl, rfl⟩
theorem start_in {old new : List S32} {run : List ByteArray} {s : ByteArray} (h : decide (s ∈ run) = false) : startAct old new run s = some ⟨2, s⟩ := by
  unfold startAct; rw [h]; rfl
theorem start_out {old new : List S32} {run : List ByteArray} {s : ByteArray} (h : decide (s ∈ run) = true) (hr : restB old new s = false) : startAct old new run s = none := by
  unfold startAct; rw [h, hr]; rfl
theorem start_re {old new : List S32} {run : List ByteArray} {s : ByteArray} (h : decide (s ∈ run) = true) (hr : restB old new s = true) : startAct old new run s = some ⟨3, s⟩ := by
  unfold startAct; rw [h, hr]; rfl
theorem fm_none {f : ByteArray → Option S55} {l : List ByteArray} {i : Nat} (h : i < l.length) (e : f l[i] = none) : (l.take (i + 1)).filterMap f = (l.take i).filterMap f := by
  rw [fm_step h, e]; simp
theorem fm_some {f : ByteArray → Option S55} {l : List ByteArray} {i : Nat} (h : i < l.length) {b : S55} (e : f l[i] = some b) : (l.take (i + 1)).filterMap f = (l.take i).filterMap f ++ [b] := by
  rw [fm_step h, e]; rfl
theorem drawn_below {w w' : World} (h : Drawn0 w w') : Below w.heap.size w w' := by
  obtain ⟨m, rfl⟩ := h.out
  exact pw_below_drewN (Below.refl _ _) m
theorem in_c (A : Option Addr) (c : Nat) (l : List ByteArray) (x : ByteArray) (w : World) (hr : Kd.C Kd.string w A l.length l) (hc : l.length ≤ c) :
    Calls Try.prog 66 #[.slice A l.length c, .string x] w fun e w' => e = .returned (.bool (decide (x ∈ l))) ∧ Below w.heap.size w w' := by
  obtain ⟨k, hk⟩ := (inList_ev l x (len_le hr)).rounds
  exact (impl_inList.calls k A c l x _ w hr hc hk).mono fun e w' ⟨h1, h2⟩ => ⟨h1, drawn_below h2⟩
theorem has_c (A : Option Addr) (c : Nat) (l : List ByteArray) (x : ByteArray) (w : World) (hr : Kd.C Kd.string w A l.length l) (hc : l.length ≤ c) :
    Calls Try.prog 51 #[.slice A l.length c, .string x] w fun e w' => e = .returned (.bool (decide (x ∈ l))) ∧ Below w.heap.size w w' := by
  obtain ⟨k, hk⟩ := (l3Has_ev l x (len_le hr)).rounds
  exact (spec_l3Has.calls k A c l x _ w hr hc hk).mono fun e w' ⟨h1, h2⟩ => ⟨h1, drawn_below h2⟩
theorem find_c (A0 : Option Addr) (c0 : Nat) (l0 : List S32) (x : ByteArray) (w : World) (hr0 : Kd.C k32 w A0 l0.length l0) (hc0 : l0.length ≤ c0) (hl : l0.length ≤ 9223372036854775807) :
    Calls Try.prog 52 #[.slice A0 l0.length c0, .string x] w fun e w' => e = .returned (.int .i64 (findU l0 x)) ∧ Below w.heap.size w w' := by
  obtain ⟨k, hk⟩ := (l18Find_ev l0 x hl).rounds
  exact (spec_l18Find.calls k A0 c0 l0 x _ w hr0 hc0 hk).mono fun e w' ⟨h1, h2⟩ => ⟨h1, drawn_below h2⟩
end Go.Proofs.Ytnjmhlhlmokjnaa.G
namespace Go.Proofs.Ytnjmhlhlmokjnaa.G
open Go.RowKit Go.Maps Go.Proofs.YtnjmhlhlmokjnaaW.PrintWords Go.Proofs.YtnjmhlhlmokjnaaW.PrintLast Go.Proofs.YtnjmhlhlmokjnaaW.PrintMore
set_option linter.unusedVariables false
set_option linter.unusedSimpArgs false
set_option maxHeartbeats 8000000 in
set_option maxRecDepth 100000 in
theorem impl_PlanUnits.calls (A0 : Option Addr) (c0 : Nat) (l0 : List S32) (A1 : Option Addr) (c1 : Nat) (l1 : List S32) (A2 : Option Addr) (c2 : Nat) (l2 : List ByteArray) (r : List S55) (w : World) (hr0 : Kd.C k32 w A0 l0.length l0) (hc0 : l0.length ≤ c0) (hr1 : Kd.C k32 w A1 l1.length l1) (hc1 : l1.length ≤ c1) (hr2 : Kd.C Kd.string w A2 l2.length l2) (hc2 : l2.length ≤ c2) (h : impl_PlanUnits.f l0 l1 l2 = some r) :
    Calls Try.prog 34 #[.slice A0 l0.length c0, .slice A1 l1.length c1, .slice A2 l2.length c2] w fun e w' => ∃ v0_ : Value, e = .returned (v0_) ∧ Kd.R k55 55 w' w.heap.size (fun _ => True) v0_ r ∧ Below w.heap.size w w' := by
  have hu55 := Try.underlying55
  have hu32 := Try.underlying32
  have HR0 := Aside0.mk hr0
  have HR1 := Aside0.mk hr1
  have HR2 := Aside0.mk hr2
  have HC0 := Aside0.mk hc0
  have HC1 := Aside0.mk hc1
  have HC2 := Aside0.mk hc2
  clear hr0 hc0 hr1 hc1 hr2 hc2
  have hr := (Option.some.inj h).symm
  clear h
  subst hr
  cases hok : unitsOkB l0 with
  | false =>
    have hf : impl_UnitsOk.f l0 = some false := by unfold impl_UnitsOk.f; rw [hok]
    have hp : planF l0 l1 l2 = [] := by unfold planF; rw [hok]; rfl
    rw [hp]
    go_enter Try.func34, Try.ntmps34
    go_wp2_with (first | (go_at_call 14; refine (impl_UnitsOk.calls A0 c0 l0 false _ HR0.out HC0.out hf).mono ?_; rintro e w' ⟨rfl, hb⟩) | fail)
    go_ret
    exact ⟨_, rfl, Kd.R_nil _ _ _ _ _, hb⟩
  | true =>
    have hf : impl_UnitsOk.f l0 = some true := by unfold impl_UnitsOk.f; rw [hok]
    cases hok1 : unitsOkB l1 with
    | false =>
      have hf1 : impl_UnitsOk.f l1 = some false := by unfold impl_UnitsOk.f; rw [hok1]
      have hp : planF l0 l1 l2 = [] := by unfold planF; rw [hok, hok1]; rfl
      rw [hp]
      go_enter Try.func34, Try.ntmps34
      go_wp2_with (first | (go_at_call_of 14 (Value.slice A0 l0.length c0); refine (impl_UnitsOk.calls A0 c0 l0 true _ HR0.out HC0.out hf).mono ?_; rintro e w1 ⟨rfl, hb⟩) | (go_at_call_of 14 (Value.slice A1 l1.length c1); refine (impl_UnitsOk.calls A1 c1 l1 false _ (Kd.C_below HR1.out hb) HC1.out hf1).mono ?_; rintro e w2 ⟨rfl, hb2⟩) | fail)
      go_ret
      exact ⟨_, rfl, Kd.R_nil _ _ _ _ _, below_weaken hb hb.size hb2⟩
    | true =>
      have hf1 : impl_UnitsOk.f l1 = some true := by unfold impl_UnitsOk.f; rw [hok1]
      by_cases hl : l2.length ≤ 2000
      · have hd1 : decide ((2000 : Int) < (l2.length : Int)) = false := decide_eq_false (by omega)
        have hd2 : decide (2000 < l2.length) = false := decide_eq_false (by omega)
        have hp : planF l0 l1 l2 = planL l0 l1 l2 := by unfold planF; rw [hok, hok1, decide_eq_true hl]; rfl
        rw [hp]
        have hl0 : l0.length ≤ 100 := (good_of_ok hok).len
        have hl1 : l1.length ≤ 100 := (good_of_ok hok1).len
        have hs0 : impl_startOrder.f l0 = some (startL l0) := by unfold impl_startOrder.f; rw [if_pos hok]
        have hs1 : impl_startOrder.f l1 = some (startL l1) := by unfold impl_startOrder.f; rw [if_pos hok1]
        have hso := (startL_inv l0).len
        have hso1 := (startL_inv l1).len
        have hw0 : IntKind.i64.wrap ((l0.length : Int) - 1) = (l0.length : Int) - 1 := IntWalk.i64_in _ ⟨by omega, by omega⟩
        go_enter Try.func34, Try.ntmps34
        go_wp2_with (first | (go_at_call_of 14 (Value.slice A0 l0.length c0); refine (impl_UnitsOk.calls A0 c0 l0 true _ HR0.out HC0.out hf).mono ?_; rintro e w1 ⟨rfl, hb⟩) | (go_at_call_of 14 (Value.slice A1 l1.length c1); refine (impl_UnitsOk.calls A1 c1 l1 true _ (Kd.C_below HR1.out hb) HC1.out hf1).mono ?_; rintro e w2 ⟨rfl, hb2⟩; replace hb2 := below_weaken hb hb.size hb2) | ((with_reducible refine gate_dst (N := 31) rfl ?_); refine Kd.R_lit k55 (w0 := w) w.heap.size 55 ?hg (N := 31) ?hd (xs := ([] : List S55)) (inner := []) (ok := fun _ => True) (okp := fun _ => False) ?hr ?hp (fun _ hk => hk.elim) trivial hb2 hb2.size (by simp) ?_; (case hd => rfl); (case hg => rfl); (case hr => first | (go_simp; done) | (go_simp; rfl)); (case hp => exact (Reps.none _ _)); intro v7 w3 ho7 hb3 hg3 hnew3) | (go_at_call 59; refine (impl_startOrder.calls A0 c0 l0 (startL l0) _ (Kd.C_below HR0.out hb3) HC0.out hs0).mono ?_; rintro e w4 ⟨v8, rfl, ho8, hb4⟩; have hb5 := below_weaken hb3 hb3.size hb4) | ((with_reducible refine gate_dst (N := 34) rfl ?_); refine Kd.R_lit Kd.string (w0 := w) w.heap.size 9 ?hg (N := 34) ?hd (xs := ([] : List ByteArray)) (inner := []) (ok := fun k => some k ≠ v8.ownBlock) (okp := fun _ => False) ?hr ?hp (fun _ hk => hk.elim) ?hf hb5 hb5.size (by simp) ?_; (case hd => rfl); (case hg => rfl); (case hf => exact (fun e => Nat.lt_irrefl _ (Kd.R_lt ho8 _ e.symm))); (case hr => first | (go_simp; done) | (go_simp; rfl)); (case hp => exact (Reps.none _ _)); intro v9 w6 ho9 hb6 hg6 hnew6) | fail)
        obtain ⟨A8, c8, hv8⟩ := Kd.R_slice ho8
        have HO8 := Aside0.mk (Kd.R_grown2 (Kd.R_lower ho8 hb3.size) rfl hg6 (fun k hk => by cases hk))
        have HO7 := Aside0.mk (Kd.R_grown2 (Kd.R_below ho7 hb4) rfl hg6 (fun k hk => by cases hk))
        have HO9 := Aside0.mk ho9
        have HB6 := Aside0.mk hb6
        clear ho8 ho7 ho9 hb hb2 hb3 hb4 hb5 hb6 hg3 hnew3 hg6 hnew6
        subst hv8
        go_loopw [10, 9] (fun v10 v9 wr => ∃ (c : Nat) (acc : List ByteArray) (q : Int), v10 = .int .i64 q ∧ q = (c : Int) - 1 ∧ c ≤ l0.length ∧ acc.length + c ≤ l0.length ∧ Aside0 (acc ++ stopA l0 c = stopA l0 l0.length) ∧ Aside0 (Kd.R Kd.string 9 wr w.heap.size (fun k => some k ≠ (Value.slice A8 (startL l0).length c8).ownBlock) v9 acc) ∧ Aside0 (Kd.R Kd.string 9 wr w.heap.size (fun _ => True) (Value.slice A8 (startL l0).length c8) (startL l0)) ∧ Aside0 (Kd.R k55 55 wr w.heap.size (fun _ => True) v7 []) ∧ Aside0 (Below w.heap.size w wr)) (fun v10 _ _ => (intOf v10 + 1).toNat)
        case atStart => exact ⟨l0.length, [], _, rfl, rfl, Nat.le_refl _, by simp, ⟨by simp⟩, HO9, HO8, HO7, HB6⟩
        case round =>
          clear HO9 HO8 HO7 HB6
          obtain ⟨c, acc, q, rfl, hq, hc, hac, HA, HO9, HO8, HO7, HB⟩ := hrel
          cases c with
          | zero =>
            obtain rfl : q = -1 := by omega
            clear hq
            have hacc : acc = stopA l0 l0.length := by
              have := HA.out
              rwa [show stopA l0 0 = [] from rfl, List.append_nil] at this
            have hw1 : IntKind.i64.wrap (((startL l0).length : Int) - 1) = ((startL l0).length : Int) - 1 := IntWalk.i64_in _ ⟨by omega, by omega⟩
            have hal : acc.length ≤ 100 := by omega
            have HAC := Aside0.mk hacc
            clear hacc HA hac
            go_wp2_with fail
            go_loopw [11, 9] (fun v11 v9 wr => ∃ (c : Nat) (st : List ByteArray) (q : Int), v11 = .int .i64 q ∧ q = (c : Int) - 1 ∧ c ≤ (startL l0).length ∧ st.length + c ≤ 200 ∧ Aside0 (st ++ ((startL l0).take c).reverse = stopsL l0) ∧ Aside0 (Kd.R Kd.string 9 wr w.heap.size (fun k => some k ≠ (Value.slice A8 (startL l0).length c8).ownBlock) v9 st) ∧ Aside0 (Kd.R Kd.string 9 wr w.heap.size (fun _ => True) (Value.slice A8 (startL l0).length c8) (startL l0)) ∧ Aside0 (Kd.R k55 55 wr w.heap.size (fun _ => True) v7 []) ∧ Aside0 (Below w.heap.size w wr)) (fun v11 _ _ => (intOf v11 + 1).toNat)
            case atStart => exact ⟨(startL l0).length, acc, _, rfl, rfl, Nat.le_refl _, by omega, ⟨by rw [List.take_length, HAC.out]; rfl⟩, HO9, HO8, HO7, HB⟩
            case round =>
              clear HO9 HO8 HO7 HB HAC hal
              obtain ⟨c, st, q, rfl, hq, hc, hsl, HA, HO9, HO8, HO7, HB⟩ := hrel
              cases c with
              | zero =>
                obtain rfl : q = -1 := by omega
                clear hq
                have hst : st = stopsL l0 := by
                  have := HA.out
                  rwa [List.take_zero, List.reverse_nil, List.append_nil] at this
                have hsl2 := stopsL_len l0
                obtain ⟨A9, c9, hv9⟩ := Kd.R_slice HO9.out
                rw [hst] at HO9 hv9
                subst hv9
                clear hst HA hsl
                go_wp2_with fail
                go_loopw [74, 7] (fun v74 v7 wr => ∃ (i : Nat), v74 = .int .i64 i ∧ i ≤ (stopsL l0).length ∧ Aside0 (Kd.R k55 55 wr w.heap.size (fun _ => True) v7 (((stopsL l0).take i).filterMap (stopAct l1 l2))) ∧ Aside0 (Kd.R Kd.string 9 wr w.heap.size (fun _ => True) (Value.slice A9 (stopsL l0).length c9) (stopsL l0)) ∧ Aside0 (Below w.heap.size w wr)) (fun v74 _ _ => (stopsL l0).length - (intOf v74).toNat)
                case atStart => exact ⟨0, rfl, Nat.zero_le _, HO7, ⟨Kd.R_mono HO9.out (fun _ _ => trivial)⟩, HB⟩
                case round =>
                  clear HO9 HO8 HO7 HB
                  obtain ⟨i, rfl, hi, HO7, HO9, HB⟩ := hrel
                  by_cases hlt : i < (stopsL l0).length
                  · have hsr := Kd.R_reads' HO9.out
                    obtain ⟨ad, hA, x0⟩ := Kd.at_string hsr.2.2 (i : Int) (by omega) (by omega)
                    cases hA
                    rw [rdOf_nat _ _ _ hlt] at x0
                    obtain ⟨s, hs0⟩ : ∃ s, s = (stopsL l0)[i] := ⟨_, rfl⟩
                    rw [← hs0] at x0
                    simp only [Int.toNat_natCast] at x0
                    have HS := Aside0.mk hs0
                    clear hs0 hsr
                    have hfl : (((stopsL l0).take i).filterMap (stopAct l1 l2)).length ≤ 200 := by
                      have := List.length_filterMap_le (stopAct l1 l2) ((stopsL l0).take i)
                      rw [List.length_take] at this
                      omega
                    cases hin : decide (s ∈ l2) with
                    | false =>
                      have he : stopAct l1 l2 (stopsL l0)[i] = none := by rw [← HS.out]; unfold stopAct; rw [hin]; rfl
                      have HF := Aside0.mk (fm_none hlt he)
                      go_wp2_with (first | (go_at_call 66; refine (in_c A2 c2 l2 s _ (Kd.C_below HR2.out HB.out) HC2.out).mono ?_; rintro e w7 ⟨rfl, hb7⟩; rw [hin]) | fail)
                      go_roundw
                      case rel => exact ⟨i + 1, by simp, hlt, ⟨by rw [HF.out]; exact Kd.R_below HO7.out hb7⟩, ⟨Kd.R_below HO9.out hb7⟩, ⟨below_weaken HB.out HB.out.size hb7⟩⟩
                      case measure => simp [intOf]; omega
                    | true =>
                      cases hh : hasU l1 s with
                      | true =>
                        have hd4 : decide (findU l1 s < 0) = false := by rw [findU_lt, hh]; rfl
                        have he : stopAct l1 l2 (stopsL l0)[i] = none := by rw [← HS.out]; unfold stopAct; rw [hin, hh]; rfl
                        have HF := Aside0.mk (fm_none hlt he)
                        go_wp2_with (first | (go_at_call 66; refine (in_c A2 c2 l2 s _ (Kd.C_below HR2.out HB.out) HC2.out).mono ?_; rintro e w7 ⟨rfl, hb7⟩; rw [hin]; have hB7 := below_weaken HB.out HB.out.size hb7) | (go_at_call 44; refine (unitOf_c A1 c1 l1 s _ (Kd.C_below HR1.out hB7) HC1.out (by omega)).mono ?_; rintro e w8 ⟨rfl, hb8⟩) | fail)
                        go_roundw
                        case rel => exact ⟨i + 1, by simp, hlt, ⟨by rw [HF.out]; exact Kd.R_below (Kd.R_below HO7.out hb7) hb8⟩, ⟨Kd.R_below (Kd.R_below HO9.out hb7) hb8⟩, ⟨below_weaken hB7 hB7.size hb8⟩⟩
                        case measure => simp [intOf]; omega
                      | false =>
                        have hd4 : decide (findU l1 s < 0) = true := by rw [findU_lt, hh]; rfl
                        have he : stopAct l1 l2 (stopsL l0)[i] = some ⟨1, s⟩ := by rw [← HS.out]; unfold stopAct; rw [hin, hh]; rfl
                        have HF := Aside0.mk (fm_some hlt he)
                        go_wp2_with (first | (go_at_call 66; refine (in_c A2 c2 l2 s _ (Kd.C_below HR2.out HB.out) HC2.out).mono ?_; rintro e w7 ⟨rfl, hb7⟩; rw [hin]; have hB7 := below_weaken HB.out HB.out.size hb7) | (go_at_call 44; refine (unitOf_c A1 c1 l1 s _ (Kd.C_below HR1.out hB7) HC1.out (by omega)).mono ?_; rintro e w8 ⟨rfl, hb8⟩; have hB8 := below_weaken hB7 hB7.size hb8; have hO7 := Kd.R_below (Kd.R_below HO7.out hb7) hb8; have hO9 := Kd.R_below (Kd.R_below HO9.out hb7) hb8) | ((with_reducible refine gate_builtin (b := .append) (xs := #[.tmp 87, .tmp 90]) rfl ?_); at_builtin; refine Kd.R_append k55 (w0 := w) w.heap.size rfl (.tmp 87) (.tmp 90) 51 55 (.agg #[(.int .i64 0), (.string ⟨#[]⟩)]) 24 rfl Try.underlying51 info55 rfl (by decide) (by omega) u7 (((stopsL l0).take i).filterMap (stopAct l1 l2)) (⟨1, s⟩ : S55) [.int .i64 1, .string s] (fun _ => True) (fun _ => False) rfl rfl ?aP (fun _ hk => hk.elim) (fun _ _ => trivial) hO7 hB8 hB8.size ?aL ?_; (case aP => exact k55_mkM _ _ _ (⟨1, s⟩ : S55)); (case aL => omega); intro v1 wz hoz hbz hgz hatz) | fail)
                        go_roundw
                        case rel => exact ⟨i + 1, by simp, hlt, ⟨by rw [HF.out]; exact hoz⟩, ⟨Kd.R_over' hO9 (Kd.R_typed hO7) (by decide) hgz⟩, ⟨hbz⟩⟩
                        case measure => simp [intOf]; omega
                  · have hie : i = (stopsL l0).length := by omega
                    subst hie
                    rw [List.take_length] at HO7
                    have hfl : ((stopsL l0).filterMap (stopAct l1 l2)).length ≤ 200 := by
                      have := List.length_filterMap_le (stopAct l1 l2) (stopsL l0)
                      omega
                    clear HO9
                    go_wp2_with (first | (go_at_call 59; refine (impl_startOrder.calls A1 c1 l1 (startL l1) _ (Kd.C_below HR1.out HB.out) HC1.out hs1).mono ?_; rintro e w7 ⟨v94, rfl, ho94, hb7⟩; obtain ⟨A10, c10, hv94⟩ := Kd.R_slice ho94; subst hv94) | fail)
                    have HO94 := Aside0.mk (Kd.R_lower ho94 HB.out.size)
                    have HO77 := Aside0.mk (Kd.R_below HO7.out hb7)
                    have HB77 := Aside0.mk (below_weaken HB.out HB.out.size hb7)
                    clear ho94 hb7 HO7 HB
                    go_loopw [96, 7] (fun v96 v7 wr => ∃ (i : Nat), v96 = .int .i64 i ∧ i ≤ (startL l1).length ∧ Aside0 (Kd.R k55 55 wr w.heap.size (fun _ => True) v7 ((stopsL l0).filterMap (stopAct l1 l2) ++ ((startL l1).take i).filterMap (startAct l0 l1 l2))) ∧ Aside0 (Kd.R Kd.string 9 wr w.heap.size (fun _ => True) (Value.slice A10 (startL l1).length c10) (startL l1)) ∧ Aside0 (Below w.heap.size w wr)) (fun v96 _ _ => (startL l1).length - (intOf v96).toNat)
                    case atStart => exact ⟨0, rfl, Nat.zero_le _, ⟨by simpa using HO77.out⟩, HO94, HB77⟩
                    case round =>
                      clear HO77 HO94 HB77
                      obtain ⟨i, rfl, hi, HO7, HO9, HB⟩ := hrel
                      by_cases hlt : i < (startL l1).length
                      · have hsr := Kd.R_reads' HO9.out
                        obtain ⟨ad, hA, x0⟩ := Kd.at_string hsr.2.2 (i : Int) (by omega) (by omega)
                        cases hA
                        rw [rdOf_nat _ _ _ hlt] at x0
                        have hhas := hasU_start (List.getElem_mem hlt)
                        obtain ⟨s, hs0⟩ : ∃ s, s = (startL l1)[i] := ⟨_, rfl⟩
                        rw [← hs0] at x0 hhas
                        simp only [Int.toNat_natCast] at x0
                        have HS := Aside0.mk hs0
                        clear hs0 hsr
                        have hf0 : 0 ≤ findU l1 s := by have := (findU_ge l1 s); rw [hhas] at this; simpa using this
                        have hf1 := findU_bound l1 s
                        obtain ⟨B, B1, d1, B2, d2, hA1, y0, y1, y2, y3, y4, _, _, _, _⟩ := at_T32 HR1.out (findU l1 s) hf0 hf1
                        cases hA1
                        have hex : (rd_T32 l1 (findU l1 s)).f3 = execU l1 s := rfl
                        have hkp : (rd_T32 l1 (findU l1 s)).f4 = keepU l1 s := rfl
                        obtain ⟨n, hn⟩ : ∃ n, n = rd_T32 l1 (findU l1 s) := ⟨_, rfl⟩
                        rw [← hn] at y0 y1 y2 y3 y4 hex hkp
                        have HEX := Aside0.mk hex
                        have HKP := Aside0.mk hkp
                        clear hn hex hkp
                        replace y0 := (HB.out.cell (World.block_lt_of_cell? w _ y0)).trans y0
                        replace y1 := (HB.out.cell (World.block_lt_of_cell? w _ y1)).trans y1
                        replace y2 := (HB.out.cell (World.block_lt_of_cell? w _ y2)).trans y2
                        replace y3 := (HB.out.cell (World.block_lt_of_cell? w _ y3)).trans y3
                        replace y4 := (HB.out.cell (World.block_lt_of_cell? w _ y4)).trans y4
                        have hy0 := World.block_lt_of_cell? wr _ y0
                        have hy1 := World.block_lt_of_cell? wr _ y1
                        have hy2 := World.block_lt_of_cell? wr _ y2
                        have hy3 := World.block_lt_of_cell? wr _ y3
                        have hy4 := World.block_lt_of_cell? wr _ y4
                        have hf0' := eq_true hf0
                        have hf1' := eq_true hf1
                        have hlen : ((stopsL l0).filterMap (stopAct l1 l2) ++ ((startL l1).take i).filterMap (startAct l0 l1 l2)).length ≤ 400 := by
                          have := List.length_filterMap_le (startAct l0 l1 l2) ((startL l1).take i)
                          rw [List.length_take] at this
                          rw [List.length_append]
                          omega
                        obtain ⟨P, hP⟩ : ∃ P, P = (stopsL l0).filterMap (stopAct l1 l2) ++ ((startL l1).take i).filterMap (startAct l0 l1 l2) := ⟨_, rfl⟩
                        rw [← hP] at HO7 hlen
                        have HP := Aside0.mk hP
                        clear hP
                        cases hin : decide (s ∈ l2) with
                        | false =>
                          have HF := Aside0.mk (fm_some hlt (by rw [← HS.out]; exact start_in (old := l0) (new := l1) hin))
                          go_wp2_with (first | (go_at_call_of 44 (Value.slice (some B) l1.length c1); refine (unitOf_c (some B) c1 l1 s _ (Kd.C_below HR1.out HB.out) HC1.out (by omega)).mono ?_; rintro e w7 ⟨rfl, hb7⟩; replace y0 := (hb7.cell hy0).trans y0; replace y1 := (hb7.cell hy1).trans y1; replace y2 := (hb7.cell hy2).trans y2; replace y3 := (hb7.cell hy3).trans y3; replace y4 := (hb7.cell hy4).trans y4; have hBa := below_alloc (below_weaken HB.out HB.out.size hb7) (.cells #[Value.string n.f0, Value.slice B1 n.f1.length d1, Value.slice B2 n.f2.length d2, Value.string n.f3, Value.bool n.f4] 32); have hO7a := Kd.R_alloc (Kd.R_below HO7.out hb7) (.cells #[Value.string n.f0, Value.slice B1 n.f1.length d1, Value.slice B2 n.f2.length d2, Value.string n.f3, Value.bool n.f4] 32); have hO9a := Kd.R_alloc (Kd.R_below HO9.out hb7) (.cells #[Value.string n.f0, Value.slice B1 n.f1.length d1, Value.slice B2 n.f2.length d2, Value.string n.f3, Value.bool n.f4] 32); have hnew := cell_new34 w7 (s := Value.string n.f0) (a := Value.slice B1 n.f1.length d1) (b := Value.slice B2 n.f2.length d2) (c := Value.string n.f3) (d := Value.bool n.f4); have hszn : w7.heap.size < (w7.alloc (.cells #[Value.string n.f0, Value.slice B1 n.f1.length d1, Value.slice B2 n.f2.length d2, Value.string n.f3, Value.bool n.f4] 32)).heap.size := blk_lt (blk_new _ _)) | (go_at_call 66; refine (in_c A2 c2 l2 s _ (Kd.C_below HR2.out hBa) HC2.out).mono ?_; rintro e w8 ⟨rfl, hb8⟩; rw [hin]; have hB8 := below_weaken hBa hBa.size hb8; have hO7 := Kd.R_below hO7a hb8; have hO9 := Kd.R_below hO9a hb8; have n3 := (hb8.cell (p := ⟨w7.heap.size, 3, none⟩) hszn).trans hnew.1; have n4 := (hb8.cell (p := ⟨w7.heap.size, 4, none⟩) hszn).trans hnew.2; have hszm := Nat.lt_of_lt_of_le hszn hb8.size) | ((with_reducible refine gate_builtin (b := .append) (xs := #[.tmp 110, .tmp 113]) rfl ?_); at_builtin; refine Kd.R_append k55 (w0 := w) w.heap.size rfl (.tmp 110) (.tmp 113) 51 55 (.agg #[(.int .i64 0), (.string ⟨#[]⟩)]) 24 rfl Try.underlying51 info55 rfl (by decide) (by omega) u7 P (⟨2, s⟩ : S55) [.int .i64 2, .string s] (fun _ => True) (fun _ => False) rfl rfl ?aP (fun _ hk => hk.elim) (fun _ _ => trivial) hO7 hB8 hB8.size ?aL ?_; (case aP => exact k55_mkM _ _ _ (⟨2, s⟩ : S55)); (case aL => omega); intro v1 wz hoz hbz hgz hatz) | fail)
                          go_roundw
                          case rel => exact ⟨i + 1, by simp, hlt, ⟨by rw [HF.out, ← List.append_assoc, ← HP.out]; exact hoz⟩, ⟨Kd.R_over' hO9 (Kd.R_typed hO7) (by decide) hgz⟩, ⟨hbz⟩⟩
                          case measure => simp [intOf]; omega
                        | true =>
                          have skip : restB l0 l1 s = false → Aside0 ((stopsL l0).filterMap (stopAct l1 l2) ++ ((startL l1).take (i + 1)).filterMap (startAct l0 l1 l2) = P) := fun h => ⟨by rw [fm_none hlt (by rw [← HS.out]; exact start_out hin h), ← HP.out]⟩
                          cases hh : hasU l0 s with
                          | false =>
                            have hd5 : decide ((0 : Int) ≤ findU l0 s) = false := by rw [findU_has, hh]
                            have HF := skip (by unfold restB; rw [hh]; rfl)
                            go_wp2_with (first | (go_at_call_of 44 (Value.slice (some B) l1.length c1); refine (unitOf_c (some B) c1 l1 s _ (Kd.C_below HR1.out HB.out) HC1.out (by omega)).mono ?_; rintro e w7 ⟨rfl, hb7⟩; replace y0 := (hb7.cell hy0).trans y0; replace y1 := (hb7.cell hy1).trans y1; replace y2 := (hb7.cell hy2).trans y2; replace y3 := (hb7.cell hy3).trans y3; replace y4 := (hb7.cell hy4).trans y4; have hBa := below_alloc (below_weaken HB.out HB.out.size hb7) (.cells #[Value.string n.f0, Value.slice B1 n.f1.length d1, Value.slice B2 n.f2.length d2, Value.string n.f3, Value.bool n.f4] 32); have hO7a := Kd.R_alloc (Kd.R_below HO7.out hb7) (.cells #[Value.string n.f0, Value.slice B1 n.f1.length d1, Value.slice B2 n.f2.length d2, Value.string n.f3, Value.bool n.f4] 32); have hO9a := Kd.R_alloc (Kd.R_below HO9.out hb7) (.cells #[Value.string n.f0, Value.slice B1 n.f1.length d1, Value.slice B2 n.f2.length d2, Value.string n.f3, Value.bool n.f4] 32); have hnew := cell_new34 w7 (s := Value.string n.f0) (a := Value.slice B1 n.f1.length d1) (b := Value.slice B2 n.f2.length d2) (c := Value.string n.f3) (d := Value.bool n.f4); have hszn : w7.heap.size < (w7.alloc (.cells #[Value.string n.f0, Value.slice B1 n.f1.length d1, Value.slice B2 n.f2.length d2, Value.string n.f3, Value.bool n.f4] 32)).heap.size := blk_lt (blk_new _ _)) | (go_at_call 66; refine (in_c A2 c2 l2 s _ (Kd.C_below HR2.out hBa) HC2.out).mono ?_; rintro e w8 ⟨rfl, hb8⟩; rw [hin]; have hB8 := below_weaken hBa hBa.size hb8; have hO7 := Kd.R_below hO7a hb8; have hO9 := Kd.R_below hO9a hb8; have n3 := (hb8.cell (p := ⟨w7.heap.size, 3, none⟩) hszn).trans hnew.1; have n4 := (hb8.cell (p := ⟨w7.heap.size, 4, none⟩) hszn).trans hnew.2; have hszm := Nat.lt_of_lt_of_le hszn hb8.size) | (go_at_call_of 44 (Value.slice A0 l0.length c0); refine (unitOf_c A0 c0 l0 s _ (Kd.C_below HR0.out hB8) HC0.out (by omega)).mono ?_; rintro e w9 ⟨rfl, hb9⟩; have hB9 := below_weaken hB8 hB8.size hb9; have hO7' := Kd.R_below hO7 hb9; have hO9' := Kd.R_below hO9 hb9; have m3 := (hb9.cell (p := ⟨w7.heap.size, 3, none⟩) hszm).trans n3; have m4 := (hb9.cell (p := ⟨w7.heap.size, 4, none⟩) hszm).trans n4; clear n3 n4) | fail)
                            go_quiet (fail)
                            go_wp2_with fail
                            go_roundw
                            case rel => exact ⟨i + 1, by simp, hlt, ⟨by rw [HF.out]; exact Kd.R_drewN hO7' _⟩, ⟨Kd.R_drewN hO9' _⟩, ⟨pw_below_drewN hB9 _⟩⟩
                            case measure => simp [intOf]; omega
                          | true =>
                            have hd5 : decide ((0 : Int) ≤ findU l0 s) = true := by rw [findU_has, hh]
                            have hg0 : 0 ≤ findU l0 s := of_decide_eq_true hd5
                            have hg1 := findU_bound l0 s
                            obtain ⟨E, E1, e1, E2, e2, hA0, z0, z1, z2, z3, z4, _, _, _, _⟩ := at_T32 HR0.out (findU l0 s) hg0 hg1
                            cases hA0
                            have hex0 : (rd_T32 l0 (findU l0 s)).f3 = execU l0 s := rfl
                            obtain ⟨m, hm⟩ : ∃ m, m = (rd_T32 l0 (findU l0 s)).f3 := ⟨_, rfl⟩
                            rw [← hm] at z3 hex0
                            have HEX0 := Aside0.mk hex0
                            have Z := Aside0.mk z3
                            clear hm hex0 z0 z1 z2 z3 z4
                            have hg0' := eq_true hg0
                            have hg1' := eq_true hg1
                            by_cases he : m = n.f3
                            · subst he
                              have HF := skip (by unfold restB; rw [hh, decide_eq_true (HEX0.out.symm.trans HEX.out)]; rfl)
                              have hq1 : (n.f3.toList == n.f3.toList) = true := beq_self_eq_true _
                              go_wp2_with (first | (go_at_call_of 44 (Value.slice (some B) l1.length c1); refine (unitOf_c (some B) c1 l1 s _ (Kd.C_below HR1.out HB.out) HC1.out (by omega)).mono ?_; rintro e w7 ⟨rfl, hb7⟩; replace y0 := (hb7.cell hy0).trans y0; replace y1 := (hb7.cell hy1).trans y1; replace y2 := (hb7.cell hy2).trans y2; replace y3 := (hb7.cell hy3).trans y3; replace y4 := (hb7.cell hy4).trans y4; have hBa := below_alloc (below_weaken HB.out HB.out.size hb7) (.cells #[Value.string n.f0, Value.slice B1 n.f1.length d1, Value.slice B2 n.f2.length d2, Value.string n.f3, Value.bool n.f4] 32); have hO7a := Kd.R_alloc (Kd.R_below HO7.out hb7) (.cells #[Value.string n.f0, Value.slice B1 n.f1.length d1, Value.slice B2 n.f2.length d2, Value.string n.f3, Value.bool n.f4] 32); have hO9a := Kd.R_alloc (Kd.R_below HO9.out hb7) (.cells #[Value.string n.f0, Value.slice B1 n.f1.length d1, Value.slice B2 n.f2.length d2, Value.string n.f3, Value.bool n.f4] 32); have hnew := cell_new34 w7 (s := Value.string n.f0) (a := Value.slice B1 n.f1.length d1) (b := Value.slice B2 n.f2.length d2) (c := Value.string n.f3) (d := Value.bool n.f4); have hszn : w7.heap.size < (w7.alloc (.cells #[Value.string n.f0, Value.slice B1 n.f1.length d1, Value.slice B2 n.f2.length d2, Value.string n.f3, Value.bool n.f4] 32)).heap.size := blk_lt (blk_new _ _)) | (go_at_call 66; refine (in_c A2 c2 l2 s _ (Kd.C_below HR2.out hBa) HC2.out).mono ?_; rintro e w8 ⟨rfl, hb8⟩; rw [hin]; have hB8 := below_weaken hBa hBa.size hb8; have hO7 := Kd.R_below hO7a hb8; have hO9 := Kd.R_below hO9a hb8; have n3 := (hb8.cell (p := ⟨w7.heap.size, 3, none⟩) hszn).trans hnew.1; have n4 := (hb8.cell (p := ⟨w7.heap.size, 4, none⟩) hszn).trans hnew.2; have hszm := Nat.lt_of_lt_of_le hszn hb8.size) | (go_at_call_of 44 (Value.slice (some E) l0.length c0); refine (unitOf_c (some E) c0 l0 s _ (Kd.C_below HR0.out hB8) HC0.out (by omega)).mono ?_; rintro e w9 ⟨rfl, hb9⟩; have hB9 := below_weaken hB8 hB8.size hb9; have hO7' := Kd.R_below hO7 hb9; have hO9' := Kd.R_below hO9 hb9; have m3 := (hb9.cell (p := ⟨w7.heap.size, 3, none⟩) hszm).trans n3; have m4 := (hb9.cell (p := ⟨w7.heap.size, 4, none⟩) hszm).trans n4; clear n3 n4; have m0 := (hB9.cell (World.block_lt_of_cell? w _ Z.out)).trans Z.out) | fail)
                              go_quiet (fail)
                              go_wp2_with fail
                              go_roundw
                              case rel => exact ⟨i + 1, by simp, hlt, ⟨by rw [HF.out]; exact Kd.R_drewN hO7' _⟩, ⟨Kd.R_drewN hO9' _⟩, ⟨pw_below_drewN hB9 _⟩⟩
                              case measure => simp [intOf]; omega
                            · have hne : ¬ m.toList = n.f3.toList := fun h => he (toList_inj h)
                              have hq1 : (m.toList == n.f3.toList) = false := beq_eq_false_iff_ne.2 hne
                              have hres : ∀ b, n.f4 = b → restB l0 l1 s = !b := fun b hb => by
                                unfold restB
                                rw [hh, decide_eq_false (fun h => he (HEX0.out.trans (h.trans HEX.out.symm))), ← HKP.out, hb]
                                rfl
                              cases hk : n.f4 with
                              | true =>
                                have HF := skip (hres true hk)
                                have HK := Aside0.mk hk
                                clear hk hres
                                go_wp2_with (first | (go_at_call_of 44 (Value.slice (some B) l1.length c1); refine (unitOf_c (some B) c1 l1 s _ (Kd.C_below HR1.out HB.out) HC1.out (by omega)).mono ?_; rintro e w7 ⟨rfl, hb7⟩; replace y0 := (hb7.cell hy0).trans y0; replace y1 := (hb7.cell hy1).trans y1; replace y2 := (hb7.cell hy2).trans y2; replace y3 := (hb7.cell hy3).trans y3; replace y4 := (hb7.cell hy4).trans y4; have hBa := below_alloc (below_weaken HB.out HB.out.size hb7) (.cells #[Value.string n.f0, Value.slice B1 n.f1.length d1, Value.slice B2 n.f2.length d2, Value.string n.f3, Value.bool n.f4] 32); have hO7a := Kd.R_alloc (Kd.R_below HO7.out hb7) (.cells #[Value.string n.f0, Value.slice B1 n.f1.length d1, Value.slice B2 n.f2.length d2, Value.string n.f3, Value.bool n.f4] 32); have hO9a := Kd.R_alloc (Kd.R_below HO9.out hb7) (.cells #[Value.string n.f0, Value.slice B1 n.f1.length d1, Value.slice B2 n.f2.length d2, Value.string n.f3, Value.bool n.f4] 32); have hnew := cell_new34 w7 (s := Value.string n.f0) (a := Value.slice B1 n.f1.length d1) (b := Value.slice B2 n.f2.length d2) (c := Value.string n.f3) (d := Value.bool n.f4); have hszn : w7.heap.size < (w7.alloc (.cells #[Value.string n.f0, Value.slice B1 n.f1.length d1, Value.slice B2 n.f2.length d2, Value.string n.f3, Value.bool n.f4] 32)).heap.size := blk_lt (blk_new _ _)) | (go_at_call 66; refine (in_c A2 c2 l2 s _ (Kd.C_below HR2.out hBa) HC2.out).mono ?_; rintro e w8 ⟨rfl, hb8⟩; rw [hin]; have hB8 := below_weaken hBa hBa.size hb8; have hO7 := Kd.R_below hO7a hb8; have hO9 := Kd.R_below hO9a hb8; have n3 := (hb8.cell (p := ⟨w7.heap.size, 3, none⟩) hszn).trans hnew.1; have n4 := (hb8.cell (p := ⟨w7.heap.size, 4, none⟩) hszn).trans hnew.2; have hszm := Nat.lt_of_lt_of_le hszn hb8.size) | (go_at_call_of 44 (Value.slice (some E) l0.length c0); refine (unitOf_c (some E) c0 l0 s _ (Kd.C_below HR0.out hB8) HC0.out (by omega)).mono ?_; rintro e w9 ⟨rfl, hb9⟩; have hB9 := below_weaken hB8 hB8.size hb9; have hO7' := Kd.R_below hO7 hb9; have hO9' := Kd.R_below hO9 hb9; have m3 := (hb9.cell (p := ⟨w7.heap.size, 3, none⟩) hszm).trans n3; have m4 := (hb9.cell (p := ⟨w7.heap.size, 4, none⟩) hszm).trans n4; clear n3 n4; have m0 := (hB9.cell (World.block_lt_of_cell? w _ Z.out)).trans Z.out; rw [HK.out] at m4) | fail)
                                go_quiet (fail)
                                go_wp2_with fail
                                go_roundw
                                case rel => exact ⟨i + 1, by simp, hlt, ⟨by rw [HF.out]; exact Kd.R_drewN hO7' _⟩, ⟨Kd.R_drewN hO9' _⟩, ⟨pw_below_drewN hB9 _⟩⟩
                                case measure => simp [intOf]; omega
                              | false =>
                                have HF := Aside0.mk (fm_some hlt (by rw [← HS.out]; exact start_re (old := l0) (new := l1) hin (hres false hk)))
                                have HK := Aside0.mk hk
                                clear hk hres
                                go_wp2_with (first | (go_at_call_of 44 (Value.slice (some B) l1.length c1); refine (unitOf_c (some B) c1 l1 s _ (Kd.C_below HR1.out HB.out) HC1.out (by omega)).mono ?_; rintro e w7 ⟨rfl, hb7⟩; replace y0 := (hb7.cell hy0).trans y0; replace y1 := (hb7.cell hy1).trans y1; replace y2 := (hb7.cell hy2).trans y2; replace y3 := (hb7.cell hy3).trans y3; replace y4 := (hb7.cell hy4).trans y4; have hBa := below_alloc (below_weaken HB.out HB.out.size hb7) (.cells #[Value.string n.f0, Value.slice B1 n.f1.length d1, Value.slice B2 n.f2.length d2, Value.string n.f3, Value.bool n.f4] 32); have hO7a := Kd.R_alloc (Kd.R_below HO7.out hb7) (.cells #[Value.string n.f0, Value.slice B1 n.f1.length d1, Value.slice B2 n.f2.length d2, Value.string n.f3, Value.bool n.f4] 32); have hO9a := Kd.R_alloc (Kd.R_below HO9.out hb7) (.cells #[Value.string n.f0, Value.slice B1 n.f1.length d1, Value.slice B2 n.f2.length d2, Value.string n.f3, Value.bool n.f4] 32); have hnew := cell_new34 w7 (s := Value.string n.f0) (a := Value.slice B1 n.f1.length d1) (b := Value.slice B2 n.f2.length d2) (c := Value.string n.f3) (d := Value.bool n.f4); have hszn : w7.heap.size < (w7.alloc (.cells #[Value.string n.f0, Value.slice B1 n.f1.length d1, Value.slice B2 n.f2.length d2, Value.string n.f3, Value.bool n.f4] 32)).heap.size := blk_lt (blk_new _ _)) | (go_at_call 66; refine (in_c A2 c2 l2 s _ (Kd.C_below HR2.out hBa) HC2.out).mono ?_; rintro e w8 ⟨rfl, hb8⟩; rw [hin]; have hB8 := below_weaken hBa hBa.size hb8; have hO7 := Kd.R_below hO7a hb8; have hO9 := Kd.R_below hO9a hb8; have n3 := (hb8.cell (p := ⟨w7.heap.size, 3, none⟩) hszn).trans hnew.1; have n4 := (hb8.cell (p := ⟨w7.heap.size, 4, none⟩) hszn).trans hnew.2; have hszm := Nat.lt_of_lt_of_le hszn hb8.size) | (go_at_call_of 44 (Value.slice (some E) l0.length c0); refine (unitOf_c (some E) c0 l0 s _ (Kd.C_below HR0.out hB8) HC0.out (by omega)).mono ?_; rintro e w9 ⟨rfl, hb9⟩; have hB9 := below_weaken hB8 hB8.size hb9; have hO7' := Kd.R_below hO7 hb9; have hO9' := Kd.R_below hO9 hb9; have m3 := (hb9.cell (p := ⟨w7.heap.size, 3, none⟩) hszm).trans n3; have m4 := (hb9.cell (p := ⟨w7.heap.size, 4, none⟩) hszm).trans n4; clear n3 n4; have m0 := (hB9.cell (World.block_lt_of_cell? w _ Z.out)).trans Z.out; rw [HK.out] at m4) | fail)
                                go_quiet (fail)
                                have hO7q := Kd.R_drewN hO7' nq
                                have hO9q := Kd.R_drewN hO9' nq
                                have hB9q := pw_below_drewN hB9 nq
                                go_wp2_with (first | ((with_reducible refine gate_builtin (b := .append) (xs := #[.tmp 135, .tmp 138]) rfl ?_); at_builtin; refine Kd.R_append k55 (w0 := w) w.heap.size rfl (.tmp 135) (.tmp 138) 51 55 (.agg #[(.int .i64 0), (.string ⟨#[]⟩)]) 24 rfl Try.underlying51 info55 rfl (by decide) (by omega) u7 P (⟨3, s⟩ : S55) [.int .i64 3, .string s] (fun _ => True) (fun _ => False) rfl rfl ?aP (fun _ hk => hk.elim) (fun _ _ => trivial) hO7q hB9q hB9q.size ?aL ?_; (case aP => exact k55_mkM _ _ _ (⟨3, s⟩ : S55)); (case aL => omega); intro v1 wz hoz hbz hgz hatz) | fail)
                                go_roundw
                                case rel => exact ⟨i + 1, by simp, hlt, ⟨by rw [HF.out, ← List.append_assoc, ← HP.out]; exact hoz⟩, ⟨Kd.R_over' hO9q (Kd.R_typed hO7q) (by decide) hgz⟩, ⟨hbz⟩⟩
                                case measure => simp [intOf]; omega
                      · have hie : i = (startL l1).length := by omega
                        subst hie
                        rw [List.take_length] at HO7
                        obtain ⟨A7, c7, hv7⟩ := Kd.R_slice HO7.out
                        subst hv7
                        go_wp2_with fail
                        go_ret
                        exact ⟨_, rfl, HO7.out, HB.out⟩
              | succ c =>
                obtain rfl : q = (c : Int) := by omega
                clear hq
                have hcl : c < (startL l0).length := by omega
                have hrs := rev_step hcl
                rw [hrs] at HA
                clear hrs
                have hsr := Kd.R_reads' HO8.out
                obtain ⟨ad, hA, x0⟩ := Kd.at_string hsr.2.2 (c : Int) (by omega) (by omega)
                cases hA
                rw [rdOf_nat _ _ _ hcl] at x0
                obtain ⟨u, hu0⟩ : ∃ u, u = (startL l0)[c] := ⟨_, rfl⟩
                rw [← hu0] at x0 HA
                simp only [Int.toNat_natCast] at x0
                clear hu0 hsr
                have hw2 : IntKind.i64.wrap ((c : Int) - 1) = (c : Int) - 1 := IntWalk.i64_in _ ⟨by omega, by omega⟩
                go_wp2_with (first | ((with_reducible refine gate_builtin (b := .append) (xs := #[.tmp 65, .tmp 70]) rfl ?_); at_builtin; refine Kd.R_append Kd.string (w0 := w) w.heap.size rfl (.tmp 65) (.tmp 70) 25 9 (.string ⟨#[]⟩) 16 rfl Try.underlying25 info9 rfl (by decide) (by omega) u9 st u [.string u] (fun k => some k ≠ (Value.slice (some ad) (startL l0).length c8).ownBlock) (fun _ => False) rfl rfl ?aP (fun _ hk => hk.elim) ?aF HO9.out HB.out HB.out.size ?aL ?_; (case aP => exact rfl); (case aF => exact (fun k hk e => absurd (Kd.R_lt HO8.out k e.symm) (by omega))); (case aL => omega); intro v1 w7 ho7 hb7 hg7 hat7) | fail)
                go_roundw
                case rel => exact ⟨c, st ++ [u], _, rfl, rfl, by omega, by simp; omega, ⟨by rw [List.append_assoc]; exact HA.out⟩, ⟨ho7⟩, ⟨Kd.R_grown2 HO8.out rfl hg7 (fun k hk => HO9.out.1 k hk)⟩, ⟨Kd.R_over' HO7.out (Kd.R_typed HO9.out) (by decide) hg7⟩, ⟨hb7⟩⟩
                case measure => simp [intOf]
          | succ c =>
            obtain rfl : q = (c : Int) := by omega
            clear hq
            have hcl : c < l0.length := by omega
            have hstp := stopA_step hcl
            rw [hstp] at HA
            clear hstp
            obtain ⟨ad, B1, d1, B2, d2, hA, x0, _, _, _, _, _, _, _, _⟩ := at_T32 HR0.out (c : Int) (by omega) (by omega)
            cases hA
            rw [rd_T32_nat l0 c hcl] at x0
            obtain ⟨u, hu0⟩ : ∃ u, u = l0[c].f0 := ⟨_, rfl⟩
            rw [← hu0] at x0 HA
            simp only [Int.toNat_natCast] at x0
            clear hu0
            replace x0 := (HB.out.cell (World.block_lt_of_cell? w _ x0)).trans x0
            have hw2 : IntKind.i64.wrap ((c : Int) - 1) = (c : Int) - 1 := IntWalk.i64_in _ ⟨by omega, by omega⟩
            have hblk := World.block_lt_of_cell? wr _ x0
            cases hin : decide (u ∈ startL l0) with
            | true =>
              rw [hin] at HA
              go_wp2_with (first | (go_at_call 66; refine (in_c A8 c8 (startL l0) u _ (Kd.R_reads' HO8.out).2.2 (Kd.R_reads' HO8.out).2.1).mono ?_; rintro e w7 ⟨rfl, hb7⟩; rw [hin]) | fail)
              go_roundw
              case rel => exact ⟨c, acc, _, rfl, rfl, by omega, by omega, ⟨by simpa using HA.out⟩, ⟨Kd.R_below HO9.out hb7⟩, ⟨Kd.R_below HO8.out hb7⟩, ⟨Kd.R_below HO7.out hb7⟩, ⟨below_weaken HB.out HB.out.size hb7⟩⟩
              case measure => simp [intOf]
            | false =>
              rw [hin] at HA
              go_wp2_with (first | (go_at_call 66; refine (in_c A8 c8 (startL l0) u _ (Kd.R_reads' HO8.out).2.2 (Kd.R_reads' HO8.out).2.1).mono ?_; rintro e w7 ⟨rfl, hb7⟩; rw [hin]; replace x0 := (hb7.cell hblk).trans x0; have ho9 := Kd.R_below HO9.out hb7; have ho8 := Kd.R_below HO8.out hb7; have ho7 := Kd.R_below HO7.out hb7; have hB7 := below_weaken HB.out HB.out.size hb7) | ((with_reducible refine gate_builtin (b := .append) (xs := #[.tmp 50, .tmp 56]) rfl ?_); at_builtin; refine Kd.R_append Kd.string (w0 := w) w.heap.size rfl (.tmp 50) (.tmp 56) 25 9 (.string ⟨#[]⟩) 16 rfl Try.underlying25 info9 rfl (by decide) (by omega) u9 acc u [.string u] (fun k => some k ≠ (Value.slice A8 (startL l0).length c8).ownBlock) (fun _ => False) rfl rfl ?aP (fun _ hk => hk.elim) ?aF ho9 hB7 hB7.size ?aL ?_; (case aP => exact rfl); (case aF => exact (fun k hk e => absurd (Kd.R_lt ho8 k e.symm) (by omega))); (case aL => omega); intro v1 w8 ho91 hb8 hg8 hat8) | fail)
              go_roundw
              case rel => exact ⟨c, acc ++ [u], _, rfl, rfl, by omega, by simp; omega, ⟨by rw [List.append_assoc]; exact HA.out⟩, ⟨ho91⟩, ⟨Kd.R_grown2 ho8 rfl hg8 (fun k hk => ho9.1 k hk)⟩, ⟨Kd.R_over' ho7 (Kd.R_typed ho9) (by decide) hg8⟩, ⟨hb8⟩⟩
              case measure => simp [intOf]
      · have hd1 : decide ((2000 : Int) < (l2.length : Int)) = true := decide_eq_true (by omega)
        have hd2 : decide (2000 < l2.length) = true := decide_eq_true (by omega)
        have hp : planF l0 l1 l2 = [] := by unfold planF; rw [hok, hok1, decide_eq_false hl]; rfl
        rw [hp]
        go_enter Try.func34, Try.ntmps34
        go_wp2_with (first | (go_at_call_of 14 (Value.slice A0 l0.length c0); refine (impl_UnitsOk.calls A0 c0 l0 true _ HR0.out HC0.out hf).mono ?_; rintro e w1 ⟨rfl, hb⟩) | (go_at_call_of 14 (Value.slice A1 l1.length c1); refine (impl_UnitsOk.calls A1 c1 l1 true _ (Kd.C_below HR1.out hb) HC1.out hf1).mono ?_; rintro e w2 ⟨rfl, hb2⟩) | fail)
        go_ret
        exact ⟨_, rfl, Kd.R_nil _ _ _ _ _, below_weaken hb hb.size hb2⟩
end Go.Proofs.Ytnjmhlhlmokjnaa.G
