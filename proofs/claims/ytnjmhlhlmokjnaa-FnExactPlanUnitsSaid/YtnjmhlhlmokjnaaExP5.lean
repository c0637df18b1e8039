/-
  Part 5 of the texts of this claim: XExActs, GImplWaits, GSpecL3Add, GSpecFailing, XPureAdd, XStartPlain, XStart, GSpecL18Ready, GSpecStartOrder, XPureOrder, XPlanPlain.
-/
import Derived.Test.YtnjmhlhlmokjnaaExP4
namespace Go.Proofs.Ytnjmhlhlmokjnaa.G
open Go.RowKit Go.Proofs.YtnjmhlhlmokjnaaW.PrintWords Go.Proofs.YtnjmhlhlmokjnaaW.PrintLast Go.Proofs.YtnjmhlhlmokjnaaW.PrintMore
set_option linter.unusedVariables false
set_option linter.unusedSimpArgs false
theorem eqas_loop (l : List S55) (hl : l.length ≤ 9223372036854775807) (d : Nat) : ∀ i : Nat, i + d = l.length → Ev (fun k => laws_eqActS.l0 k l l (i : Int)) true := by
  induction d with
  | zero =>
    intro i hi
    exact Ev.step (f := fun _ => some true) (fun k => by rw [laws_eqActS.l0, if_neg (by omega)]) (Ev.now _)
  | succ d ih =>
    intro i hi
    have hw := wrap_up i d l.length hl hi
    refine Ev.step (fun k => ?_) (ih (i + 1) (by omega))
    rw [laws_eqActS.l0, hw, if_pos (by omega), if_pos (by omega), if_pos (by omega)]
    unfold laws_eqAct.f
    rw [if_pos rfl, if_pos rfl, Option.bind_some, if_pos rfl]
theorem eqas_ev (l : List S55) (hl : l.length ≤ 9223372036854775807) : Ev (fun k => laws_eqActS.f k l l) true :=
  Ev.congr (fun k => by unfold laws_eqActS.f; rw [if_pos rfl]; rfl) (eqas_loop l hl l.length 0 (by omega))
structure MarkedA (i : Nat) (a : Int) (l r : List S55) : Prop where
  len : r.length = l.length
  low : ∀ j, j < i → r[j]? = l[j]?
  high : ∀ j, i ≤ j → j < l.length → r[j]? = some (⟨a + 2 * ((j - i : Nat) : Int), mtext (a + 2 * ((j - i : Nat) : Int) + 1)⟩ : S55)
theorem rdset55 (l : List S55) (i : Nat) (x : S55) (h : i < l.length) : rd_T55 (l.set i x) (i : Int) = x := by
  rw [rd55_nat _ _ (by rw [List.length_set]; exact h), List.getElem_set_self]
theorem marka_loop (d : Nat) : ∀ (i : Nat) (l : List S55) (a : Int), i + d = l.length → l.length ≤ 1048576 → 0 ≤ a → a + 2 * d ≤ 1152921504606846976 →
    ∃ r, Ev (fun k => laws_markActS.l0 k l a (i : Int)) (a + 2 * d, r) ∧ MarkedA i a l r := by
  induction d with
  | zero =>
    intro i l a hi hl h0 ha
    refine ⟨l, Ev.step (f := fun _ => some (a + 2 * ((0 : Nat) : Int), l)) (fun k => ?_) (Ev.now _), rfl, fun _ _ => rfl, fun j h1 h2 => by omega⟩
    rw [laws_markActS.l0, if_neg (by omega)]
    simp
  | succ d ih =>
    intro i l a hi hl h0 ha
    have hw := wrap_up i d l.length (by omega) hi
    have hwa : wrap64 (a + 1) = a + 1 := wrap_id (by omega) (by omega)
    have hwb : wrap64 (a + 1 + 1) = a + 2 := by rw [wrap_id (by omega) (by omega)]; omega
    have hil : i < l.length := by omega
    obtain ⟨r, hr, hm⟩ := ih (i + 1) (l.set i ⟨a, mtext (a + 1)⟩) (a + 2) (by rw [List.length_set]; omega) (by rw [List.length_set]; omega) (by omega) (by omega)
    refine ⟨r, Ev.step (f := fun k => (laws_markText.f k (a + 1)).bind fun t => laws_markActS.l0 k (l.set i ⟨a, t⟩) (a + 2) ((i + 1 : Nat) : Int)) (fun k => ?_) (Ev.bind (markText_ev (a + 1) (by omega)) ?_), ?_, fun j hj => ?_, fun j h1 h2 => ?_⟩
    · rw [laws_markActS.l0, if_pos (by omega), hw]
      simp only [if_pos (show (0 : Int) ≤ (i : Int) by omega), Int.toNat_natCast, Option.bind_some, hwa, hwb, rdset55 l i _ hil, List.set_set]
    · have e : a + 2 + 2 * (d : Int) = a + 2 * ((d + 1 : Nat) : Int) := by omega
      rw [← e]
      exact hr
    · rw [hm.len, List.length_set]
    · rw [hm.low j (by omega), List.getElem?_set_ne (by omega)]
    · by_cases hj : j = i
      · subst hj
        rw [hm.low j (by omega), List.getElem?_set_self h2]
        simp
      · rw [hm.high j (by omega) (by rw [List.length_set]; exact h2)]
        have e : a + 2 + 2 * ((j - (i + 1) : Nat) : Int) = a + 2 * ((j - i : Nat) : Int) := by omega
        rw [e]
theorem marka_ev (l : List S55) (a : Int) (hl : l.length ≤ 1048576) (h0 : 0 ≤ a) (ha : a + 2 * l.length ≤ 1152921504606846976) :
    ∃ r, Ev (fun k => laws_markActS.f k l a) (a + 2 * l.length, r) ∧ MarkedA 0 a l r := marka_loop l.length 0 l a (by omega) hl h0 ha
theorem helda_loop (l0 l : List S55) (a0 : Int) (hm : MarkedA 0 a0 l0 l) (hl : l.length ≤ 1048576) (d : Nat) : ∀ (i : Nat) (a : Int), i + d = l.length → a = a0 + 2 * i → 0 ≤ a → a + 2 * d ≤ 1152921504606846976 →
    Ev (fun k => laws_heldActS.l0 k l a (i : Int)) (a + 2 * d) := by
  induction d with
  | zero =>
    intro i a hi h1 h0 ha
    exact Ev.step (f := fun _ => some (a + 2 * ((0 : Nat) : Int))) (fun k => by rw [laws_heldActS.l0, if_neg (by omega)]; simp) (Ev.now _)
  | succ d ih =>
    intro i a hi h1 h0 ha
    have hw := wrap_up i d l.length (by omega) hi
    have hwa : wrap64 (a + 1) = a + 1 := wrap_id (by omega) (by omega)
    have hwb : wrap64 (a + 1 + 1) = a + 2 := by rw [wrap_id (by omega) (by omega)]; omega
    have hil : i < l.length := by omega
    have hx : l[i] = ⟨a, mtext (a + 1)⟩ := by
      have := hm.high i (Nat.zero_le _) (by rw [← hm.len]; exact hil)
      rw [List.getElem?_eq_getElem hil] at this
      rw [Option.some.inj this, h1]
      rfl
    have hr := ih (i + 1) (a + 2) (by omega) (by omega) (by omega) (by omega)
    have e : a + 2 + 2 * (d : Int) = a + 2 * ((d + 1 : Nat) : Int) := by omega
    rw [e] at hr
    refine Ev.step (f := fun k => (laws_markText.f k (a + 1)).bind fun t => if (mtext (a + 1)).toList = t.toList then laws_heldActS.l0 k l (a + 2) ((i + 1 : Nat) : Int) else some (-1)) (fun k => ?_) (Ev.bind (markText_ev (a + 1) (by omega)) (Ev.congr (fun k => if_pos rfl) hr))
    rw [laws_heldActS.l0, if_pos (by omega), if_pos (by omega), hw, hwa, rd55_nat l i hil, hx, hwb]
    simp only [if_pos]
theorem helda_ev (l0 l : List S55) (a : Int) (hm : MarkedA 0 a l0 l) (hl : l.length ≤ 1048576) (h0 : 0 ≤ a) (ha : a + 2 * l.length ≤ 1152921504606846976) :
    Ev (fun k => laws_heldActS.f k l a) (a + 2 * l.length) := helda_loop l0 l a hm hl l.length 0 a (by omega) (by omega) h0 ha
theorem eqA_c {l : List S55} {A A' : Option Addr} {c c' : Nat} {w : World} (hr : Kd.C k55 w A l.length l) (hc : l.length ≤ c) (hr' : Kd.C k55 w A' l.length l) (hc' : l.length ≤ c') :
    Calls Try.prog 38 #[.slice A l.length c, .slice A' l.length c'] w fun e w' => e = .returned (.bool true) ∧ Below w.heap.size w w' := by
  obtain ⟨k, hk⟩ := (eqas_ev l hr.2.1).rounds
  exact laws_eqActS.calls k A c l A' c' l true w hr hc hr' hc' hk
theorem markA_c {l : List S55} {v : Value} {ok : Nat → Prop} {w0 w : World} (a : Int) (hB : Below w0.heap.size w0 w) (h : k55.R 55 w w0.heap.size ok v l) (hl : l.length ≤ 1048576) (h0 : 0 ≤ a) (ha : a ≤ 576460752303423488) :
    Calls Try.prog 39 #[v, .int .i64 a] w fun e w' => e = .returned (.int .i64 (a + 2 * l.length)) ∧ (∃ l', MarkedA 0 a l l' ∧ k55.R 55 w' w0.heap.size (fun k => some k = v.ownBlock ∨ w.heap.size ≤ k) v l') ∧ Below w0.heap.size w0 w' ∧ Kept w w' (fun k => some k = v.ownBlock) := by
  obtain ⟨r, hr, hm⟩ := marka_ev l a hl h0 (by omega)
  obtain ⟨k, hk⟩ := hr.rounds
  refine (laws_markActS.calls k (fun k => some k = v.ownBlock) v l a _ r w0 w hB ?_ hk).mono ?_
  · exact Kd.R_tight rfl h
  · rintro e w' ⟨h1, h2, h3, h4⟩
    exact ⟨h1, ⟨r, hm, h2⟩, h3, h4⟩
theorem heldA_c {l0 l : List S55} {A : Option Addr} {n c base : Nat} {ok : Nat → Prop} {w : World} (a : Int) (hm : MarkedA 0 a l0 l) (hl : l0.length ≤ 1048576) (h0 : 0 ≤ a) (ha : a ≤ 576460752303423488) (h : k55.R 55 w base ok (.slice A n c) l) (hn : n = l0.length) :
    Calls Try.prog 40 #[.slice A n c, .int .i64 a] w fun e w' => e = .returned (.int .i64 (a + 2 * n)) ∧ Below w.heap.size w w' := by
  have hll := hm.len
  obtain ⟨k, hk⟩ := (helda_ev l0 l a hm (by omega) h0 (by omega)).rounds
  obtain ⟨h1, h2, h3⟩ := Kd.R_reads' h
  subst h1
  exact laws_heldActS.calls k A c l a _ w h3 h2 hk
end Go.Proofs.Ytnjmhlhlmokjnaa.G
namespace Go.Proofs.Ytnjmhlhlmokjnaa.G
open Go.RowKit Go.Proofs.YtnjmhlhlmokjnaaW.PrintWords Go.Proofs.YtnjmhlhlmokjnaaW.PrintLast Go.Proofs.YtnjmhlhlmokjnaaW.PrintMore
attribute [local go_sem] max2_int min2_int max_two min_two max_three min_three max_four min_four
set_option linter.unusedVariables false
set_option linter.unusedSimpArgs false
def impl_waits.l0 : Nat → List (S32) → List ByteArray → List ByteArray → Int → Int → Option (List ByteArray)
  | 0, _, _, _, _, _ => none
  | k + 1, x0, x5, x13, x14, x15 => if x15 < x14 then (if 0 ≤ x15 then (if x15 < (x13.length : Int) then ((impl_unitOf.f k x0 (rdOf ByteArray.empty x13 x15)).bind fun t207 => (if t207 ≥ 0 then (if x5.length < 8796093022208 then (impl_waits.l0 k x0 (x5 ++ [rdOf ByteArray.empty x13 x15]) x13 x14 (wrap64 (x15 + 1))) else (none)) else (impl_waits.l0 k x0 x5 x13 x14 (wrap64 (x15 + 1))))) else (none)) else (none)) else ((impl_sortedSet.f x5).bind fun t211 => (some t211))
def impl_waits.f (k : Nat) (l0 : List (S32)) (a1_0 : ByteArray) (l1_1 : List ByteArray) (l1_2 : List ByteArray) (a1_3 : ByteArray) (a1_4 : Bool) : Option (List ByteArray) := (some (([] : List ByteArray) : List ByteArray)).bind fun y200 => (if y200.length + l1_2.length < 8796093022208 then (impl_waits.l0 k l0 (y200 ++ l1_2) l1_1 (l1_1.length : Int) 0) else (none))
set_option maxHeartbeats 8000000 in
set_option maxRecDepth 100000 in
theorem impl_waits.calls (k : Nat) (A0 : Option Addr) (c0 : Nat) (l0 : List (S32)) (a1_0 : ByteArray) (A1_1 : Option Addr) (c1_1 : Nat) (l1_1 : List ByteArray) (A1_2 : Option Addr) (c1_2 : Nat) (l1_2 : List ByteArray) (a1_3 : ByteArray) (a1_4 : Bool) (r : List ByteArray) (w : World) (hr0 : Kd.C k32 w A0 l0.length l0) (hc0 : l0.length ≤ c0) (hr1_1 : Kd.C Kd.string w A1_1 l1_1.length l1_1) (hc1_1 : l1_1.length ≤ c1_1) (hr1_2 : Kd.C Kd.string w A1_2 l1_2.length l1_2) (hc1_2 : l1_2.length ≤ c1_2) (h : impl_waits.f k l0 a1_0 l1_1 l1_2 a1_3 a1_4 = some r) :
    Calls Try.prog 62 #[.slice A0 l0.length c0, .agg #[.string a1_0, .slice A1_1 l1_1.length c1_1, .slice A1_2 l1_2.length c1_2, .string a1_3, .bool a1_4]] w fun e w' => ∃ v0_ : Value, e = .returned (v0_) ∧ Kd.R Kd.string 9 w' w.heap.size (fun _ => True) v0_ r ∧ Below w.heap.size w w' := by
  have hu32 := Try.underlying32
  have HR0 := Aside0.mk hr0
  have HC0 := Aside0.mk hc0
  clear hr0 hc0
  have HR1_1 := Aside0.mk hr1_1
  have HC1_1 := Aside0.mk hc1_1
  clear hr1_1 hc1_1
  have HR1_2 := Aside0.mk hr1_2
  have HC1_2 := Aside0.mk hc1_2
  clear hr1_2 hc1_2
  have HB := Aside0.mk (Below.refl w.heap.size w)
  have H : ((some (([] : List ByteArray) : List ByteArray)).bind fun y200 => (if y200.length + l1_2.length < 8796093022208 then (impl_waits.l0 k l0 (y200 ++ l1_2) l1_1 (l1_1.length : Int) 0) else (none))) = some r := h
  clear h
  obtain ⟨y200, hy200⟩ : ∃ y_ : List ByteArray, y_ = (([] : List ByteArray)) := ⟨_, rfl⟩
  replace H : (if y200.length + l1_2.length < 8796093022208 then (impl_waits.l0 k l0 (y200 ++ l1_2) l1_1 (l1_1.length : Int) 0) else (none)) = some r := by first | (rw [hy200]; with_reducible exact H) | (have H2_ := (Option.bind_some _ _).symm.trans H; rw [hy200]; with_reducible exact H2_) | (have H2_ := (Option.bind_some _ _).symm.trans H; with_reducible exact H2_) | with_reducible exact H | (rw [hy200]; exact H) | exact H
  have Ny200 := Aside0.mk hy200
  clear hy200
  by_cases c3 : y200.length + l1_2.length < 8796093022208
  · rw [if_pos c3] at H
    have LMc3 := Aside0.mk c3
    clear c3
    obtain ⟨y203, hy203⟩ : ∃ y_ : List ByteArray, y_ = (y200 ++ l1_2) := ⟨_, rfl⟩
    replace H : (impl_waits.l0 k l0 y203 l1_1 (l1_1.length : Int) 0) = some r := by first | (rw [hy203]; with_reducible exact H) | (have H2_ := (Option.bind_some _ _).symm.trans H; rw [hy203]; with_reducible exact H2_) | (have H2_ := (Option.bind_some _ _).symm.trans H; with_reducible exact H2_) | with_reducible exact H | (rw [hy203]; exact H) | exact H
    have Ny203 := Aside0.mk hy203
    clear hy203
    have H' := Aside0.mk H
    clear H
    go_enter Try.func62, Try.ntmps62
    go_wp2_with (first | ((with_reducible refine gate_dst (N := 3) rfl ?_); refine box_event ?hg (N := 3) ?hd (cs := #[.string a1_0, .slice A1_1 l1_1.length c1_1, .slice A1_2 l1_2.length c1_2, .string a1_3, .bool a1_4]) (t := 32) ?hr ?_; (case hd => rfl); (case hg => rfl); (case hr => first | (go_simp; done) | (go_simp; rfl)); intro gb199 hg w4 hbox hb; have n0_ := Aside0.mk (below_step (by repeat (first | (with_reducible first | exact HB.out | apply below_alloc | apply pw_below_drewN | apply below_drew1) | exact HB.out)) hb); have n1_ := Aside0.mk (hbox); have n2_ := Aside0.mk ((by rw [hg]; exact (below_size (by repeat (first | (with_reducible first | exact HB.out | apply below_alloc | apply pw_below_drewN | apply below_drew1) | exact HB.out))) : w.heap.size ≤ gb199)); have n3_ := Aside0.mk ((by rw [hg]; exact (below_size (by repeat (first | (with_reducible first | exact HB.out | apply below_alloc | apply pw_below_drewN | apply below_drew1) | exact HB.out))) : w.heap.size ≤ gb199)); clear HB; have HB := n0_; have BK199 := n1_; have GW199 := n2_; have GE199 := n3_; clear n0_ n1_ n2_ n3_; clear hb hbox hg) | ((with_reducible refine gate_dst (N := 8) rfl ?_); refine Kd.R_lit Kd.string _ 9 ?hg (N := 8) ?hd (xs := ([] : List ByteArray)) (inner := []) (ok := fun _ => True) (okp := fun _ => True) ?hr ?hp (fun _ hk => hk) trivial (Below.refl _ _) (Nat.le_refl _) (by simp) ?_; (case hd => rfl); (case hg => rfl); (case hr => first | (go_simp; done) | (go_simp; rfl)); (case hp => exact (Reps.none _ _)); intro v201 w5 ho6 hb hg_ hnew_; clear hg_ hnew_; (first | rw [← Ny200.out] at ho6 | (simp only [Int.reduceToNat] at ho6; rw [← Ny200.out] at ho6)); have n0_ := Aside0.mk (Kd.R_lower ho6 (below_size (by repeat (first | (with_reducible first | exact HB.out | apply below_alloc | apply pw_below_drewN | apply below_drew1 | refine below_set ?_ GE199.out) | exact HB.out)))); have n1_ := Aside0.mk (blk_below (g := gb199) (o := .cells #[.string a1_0, .slice A1_1 l1_1.length c1_1, .slice A1_2 l1_2.length c1_2, .string a1_3, .bool a1_4] 32 (0, 0)) (by (with_reducible repeat (first | refine blk_drewN ?_ _ | refine blk_drew ?_ | refine blk_alloc ?_ _)); exact BK199.out) hb); have n2_ := Aside0.mk (below_step (by repeat (first | (with_reducible first | exact HB.out | apply below_alloc | apply pw_below_drewN | apply below_drew1 | refine below_set ?_ GE199.out) | exact HB.out)) hb); clear BK199; clear HB; have HO202 := n0_; have BK199 := n1_; have HB := n2_; clear n0_ n1_ n2_; clear hb ho6; have hcz7_0 : w5.cell? ⟨gb199, 0, none⟩ = some (.string a1_0) := (blk_cell BK199.out 0).trans rfl; have hcz7_1 : w5.cell? ⟨gb199, 1, none⟩ = some (.slice A1_1 l1_1.length c1_1) := (blk_cell BK199.out 1).trans rfl; have hcz7_2 : w5.cell? ⟨gb199, 2, none⟩ = some (.slice A1_2 l1_2.length c1_2) := (blk_cell BK199.out 2).trans rfl; have hcz7_3 : w5.cell? ⟨gb199, 3, none⟩ = some (.string a1_3) := (blk_cell BK199.out 3).trans rfl; have hcz7_4 : w5.cell? ⟨gb199, 4, none⟩ = some (.bool a1_4) := (blk_cell BK199.out 4).trans rfl; have hfz7_0 := blk_frozen BK199.out 0; have hfz7_1 := blk_frozen BK199.out 1; have hfz7_2 := blk_frozen BK199.out 2; have hfz7_3 := blk_frozen BK199.out 3; have hfz7_4 := blk_frozen BK199.out 4) | ((with_reducible refine gate_builtin (b := .append) (xs := #[.tmp 8, .tmp 10]) rfl ?_); at_builtin; refine Kd.R_append_rows Kd.string (w0 := w) w.heap.size rfl (.tmp 8) (.tmp 10) 25 9 (.string ⟨#[]⟩) 16 rfl Try.underlying25 info9 rfl (by decide) (by omega) v201 y200 l1_2 _ _ _ (fun _ => True) (fun _ => False) rfl rfl ?aO ?aR (fun _ _ h => h) (fun _ h => h.elim) ?aF ?aB ?aS ?aL ?_; (case aR => repeat (first | exact (Kd.C_below HR1_2.out HB.out) | (with_reducible refine Kd.C_alloc ?_ _) | (with_reducible refine Kd.C_drewN ?_ _) | (with_reducible refine Kd.C_drew ?_))); (case aB => exact (by repeat (first | (with_reducible first | exact HB.out | apply below_alloc | apply pw_below_drewN | apply below_drew1 | refine below_set ?_ GE199.out) | exact HB.out))); (case aF => exact (fun _ _ => trivial)); (case aO => exact (by (with_reducible repeat (first | apply Kd.R_alloc | apply Kd.R_drewN | apply Kd.R_drew)); exact HO202.out)); (case aS => exact (below_size (by repeat (first | (with_reducible first | exact HB.out | apply below_alloc | apply pw_below_drewN | apply below_drew1 | refine below_set ?_ GE199.out) | exact HB.out)))); (case aL => have := LMc3.out; omega); intro v204 w8 ho hb hg hat; rw [← Ny203.out] at ho; have n0_ := Aside0.mk (blk_grown (g := gb199) (o := .cells #[.string a1_0, .slice A1_1 l1_1.length c1_1, .slice A1_2 l1_2.length c1_2, .string a1_3, .bool a1_4] 32 (0, 0)) (by (with_reducible repeat (first | refine blk_drewN ?_ _ | refine blk_drew ?_ | refine blk_alloc ?_ _)); exact BK199.out) hg (Kd.R_ne HO202.out BK199.out (by decide))); have n1_ := Aside0.mk (hb); have n2_ := Aside0.mk (ho); clear BK199; clear HB; clear HO202; have BK199 := n0_; have HB := n1_; have HO205 := n2_; clear n0_ n1_ n2_; clear ho hb hg hat; have hcz9_0 : w8.cell? ⟨gb199, 0, none⟩ = some (.string a1_0) := (blk_cell BK199.out 0).trans rfl; have hcz9_1 : w8.cell? ⟨gb199, 1, none⟩ = some (.slice A1_1 l1_1.length c1_1) := (blk_cell BK199.out 1).trans rfl; have hcz9_2 : w8.cell? ⟨gb199, 2, none⟩ = some (.slice A1_2 l1_2.length c1_2) := (blk_cell BK199.out 2).trans rfl; have hcz9_3 : w8.cell? ⟨gb199, 3, none⟩ = some (.string a1_3) := (blk_cell BK199.out 3).trans rfl; have hcz9_4 : w8.cell? ⟨gb199, 4, none⟩ = some (.bool a1_4) := (blk_cell BK199.out 4).trans rfl; have hfz9_0 := blk_frozen BK199.out 0; have hfz9_1 := blk_frozen BK199.out 1; have hfz9_2 := blk_frozen BK199.out 2; have hfz9_3 := blk_frozen BK199.out 3; have hfz9_4 := blk_frozen BK199.out 4))
    go_loopg [5, 15] k (fun kq v5 v15 w' => ∃ (x5_1 : List ByteArray) (x15_1 : Int), v15 = .int .i64 x15_1 ∧ Aside0 (impl_waits.l0 kq l0 x5_1 l1_1 (l1_1.length : Int) x15_1 = some r) ∧ Aside0 (kq ≤ k) ∧ Aside0 (Kd.R Kd.string 9 w' w.heap.size (fun _ => True) v5 x5_1) ∧ Aside0 (w'.heap[gb199]? = some (.cells #[.string a1_0, (.slice A1_1 l1_1.length c1_1), (.slice A1_2 l1_2.length c1_2), .string a1_3, .bool a1_4] 32 (0, 0))) ∧ Aside0 (Below w.heap.size w w'))
    case atStart => exact ⟨(y203), (0), (by first | rfl | (simp; done) | (simp [*]; done)), H', ⟨Nat.le_refl _⟩, ⟨by (with_reducible repeat (first | apply Kd.R_alloc | apply Kd.R_drewN | apply Kd.R_drew)); exact HO205.out⟩, ⟨by (with_reducible repeat (first | refine blk_drewN ?_ _ | refine blk_drew ?_ | refine blk_alloc ?_ _)); exact BK199.out⟩, ⟨by repeat (first | (with_reducible first | exact HB.out | apply below_alloc | apply pw_below_drewN | apply below_drew1 | refine below_set ?_ GE199.out) | exact HB.out)⟩⟩
    case round =>
      clear H'
      try clear c1
      try clear p2
      try clear c3
      try clear c6
      try clear hcz7_0
      try clear hcz7_1
      try clear hcz7_2
      try clear hcz7_3
      try clear hcz7_4
      try clear hcz9_0
      try clear hcz9_1
      try clear hcz9_2
      try clear hcz9_3
      try clear hcz9_4
      try clear hfz7_0
      try clear hfz7_1
      try clear hfz7_2
      try clear hfz7_3
      try clear hfz7_4
      try clear hfz9_0
      try clear hfz9_1
      try clear hfz9_2
      try clear hfz9_3
      try clear hfz9_4
      obtain ⟨x5_1, x15_1, rfl, HA, HK1, HO_5, BK199, HB⟩ := hrel
      cases gk with
      | zero => exact absurd HA.out (by simp [impl_waits.l0])
      | succ k1 =>
        have H := HA.out
        clear HA
        simp only [impl_waits.l0] at H
        by_cases c10 : x15_1 < (l1_1.length : Int)
        · rw [if_pos c10] at H
          have c10b0 : decide (x15_1 < (l1_1.length : Int)) = true := decide_eq_true c10
          clear c10
          by_cases c11 : 0 ≤ x15_1
          · rw [if_pos c11] at H
            have c11b0 : decide (0 ≤ x15_1) = true := decide_eq_true c11
            clear c11
            by_cases c12 : x15_1 < (l1_1.length : Int)
            · rw [if_pos c12] at H
              have c12b0 : decide (x15_1 < (l1_1.length : Int)) = true := decide_eq_true c12
              clear c12
              replace H := Option.bind_eq_some_iff.mp H
              obtain ⟨t207, A130, H⟩ := H
              replace H : (if t207 ≥ 0 then (if x5_1.length < 8796093022208 then (impl_waits.l0 k1 l0 (x5_1 ++ [rdOf ByteArray.empty l1_1 x15_1]) l1_1 (l1_1.length : Int) (wrap64 (x15_1 + 1))) else (none)) else (impl_waits.l0 k1 l0 x5_1 l1_1 (l1_1.length : Int) (wrap64 (x15_1 + 1)))) = some r := H
              have A13 := Aside0.mk A130
              clear A130
              by_cases c14 : t207 ≥ 0
              · rw [if_pos c14] at H
                have c14b0 : decide (0 ≤ t207) = true := decide_eq_true c14
                clear c14
                by_cases c15 : x5_1.length < 8796093022208
                · rw [if_pos c15] at H
                  have LMc15 := Aside0.mk c15
                  clear c15
                  obtain ⟨y208, hy208⟩ : ∃ y_ : List ByteArray, y_ = (x5_1 ++ [rdOf ByteArray.empty l1_1 x15_1]) := ⟨_, rfl⟩
                  replace H : (impl_waits.l0 k1 l0 y208 l1_1 (l1_1.length : Int) (wrap64 (x15_1 + 1))) = some r := by first | (rw [hy208]; with_reducible exact H) | (have H2_ := (Option.bind_some _ _).symm.trans H; rw [hy208]; with_reducible exact H2_) | (have H2_ := (Option.bind_some _ _).symm.trans H; with_reducible exact H2_) | with_reducible exact H | (rw [hy208]; exact H) | exact H
                  have Ny208 := Aside0.mk hy208
                  clear hy208
                  have H' := Aside0.mk H
                  clear H
                  have p206 : 0 ≤ (x15_1 : Int) := of_decide_eq_true (by first | (with_reducible assumption) | assumption)
                  have q206 : x15_1 < (l1_1.length : Int) := of_decide_eq_true (by first | (with_reducible assumption) | assumption)
                  obtain ⟨ad206, e206, hx206_0⟩ := Kd.at_string HR1_1.out x15_1 p206 q206
                  cases e206
                  replace hx206_0 := (HB.out.cell (World.block_lt_of_cell? w _ hx206_0)).trans hx206_0
                  replace p206 := eq_true p206
                  replace q206 := eq_true q206
                  go_wp2_with (first | ((with_reducible refine gate_callee (f := 44) rfl ?_); refine goesL_ (some 21) rfl rfl Try.func44 (by kernel_rfl) rfl #[.slice A0 l0.length c0, .string (rdOf ByteArray.empty l1_1 x15_1)] rfl (by (try simp only [List.map_toArray, List.map_cons, List.map_nil]); first | done | rfl | (simp only [List.length_drop, List.length_take]; rfl)) ?_; (with_reducible refine (impl_unitOf.calls k1 _ _ l0 (rdOf ByteArray.empty l1_1 x15_1) t207 _ ?side1 ?side2 A13.out).mono ?_); (case side1 => repeat (first | exact (Kd.C_below HR0.out HB.out) | (with_reducible refine Kd.C_alloc ?_ _) | (with_reducible refine Kd.C_drewN ?_ _) | (with_reducible refine Kd.C_drew ?_))); (case side2 => exact HC0.out); rintro e w16 ⟨rfl, hb⟩; refine ⟨_, rfl, ?_⟩; have n0_ := Aside0.mk (Kd.R_below (by (with_reducible repeat (first | apply Kd.R_alloc | apply Kd.R_drewN | apply Kd.R_drew)); exact HO_5.out) hb); have n1_ := Aside0.mk (blk_below (g := gb199) (o := .cells #[.string a1_0, .slice (some ad206) l1_1.length c1_1, .slice A1_2 l1_2.length c1_2, .string a1_3, .bool a1_4] 32 (0, 0)) (by (with_reducible repeat (first | refine blk_drewN ?_ _ | refine blk_drew ?_ | refine blk_alloc ?_ _)); exact BK199.out) hb); have n2_ := Aside0.mk (below_step (by repeat (first | (with_reducible first | exact HB.out | apply below_alloc | apply pw_below_drewN | apply below_drew1 | refine below_set ?_ GE199.out) | exact HB.out)) hb); clear HO_5; clear BK199; clear HB; have HO_5 := n0_; have BK199 := n1_; have HB := n2_; clear n0_ n1_ n2_; (try clear hb); (try clear hb2); (try clear hk); (try clear hi)) | ((with_reducible refine gate_builtin (b := .append) (xs := #[.tmp 23, .tmp 25]) rfl ?_); at_builtin; refine Kd.R_append Kd.string (w0 := w) w.heap.size rfl (.tmp 23) (.tmp 25) 25 9 (.string ⟨#[]⟩) 16 rfl Try.underlying25 info9 rfl (by decide) (by omega) u5 x5_1 (rdOf ByteArray.empty l1_1 x15_1) [.string (rdOf ByteArray.empty l1_1 x15_1)] (fun _ => True) (fun _ => False) rfl rfl ?aP (fun _ hk => hk.elim) ?aF ?aO ?aB ?aS ?aL ?_; (case aP => exact rfl); (case aB => exact (by repeat (first | (with_reducible first | exact HB.out | apply below_alloc | apply pw_below_drewN | apply below_drew1 | refine below_set ?_ GE199.out) | exact HB.out))); (case aF => exact (fun _ _ => trivial)); (case aO => exact (by (with_reducible repeat (first | apply Kd.R_alloc | apply Kd.R_drewN | apply Kd.R_drew)); exact HO_5.out)); (case aS => exact (below_size (by repeat (first | (with_reducible first | exact HB.out | apply below_alloc | apply pw_below_drewN | apply below_drew1 | refine below_set ?_ GE199.out) | exact HB.out)))); (case aL => have := LMc15.out; omega); intro v209 w17 ho hb hg hat; rw [← Ny208.out] at ho; have n0_ := Aside0.mk (blk_grown (g := gb199) (o := .cells #[.string a1_0, .slice (some ad206) l1_1.length c1_1, .slice A1_2 l1_2.length c1_2, .string a1_3, .bool a1_4] 32 (0, 0)) (by (with_reducible repeat (first | refine blk_drewN ?_ _ | refine blk_drew ?_ | refine blk_alloc ?_ _)); exact BK199.out) hg (Kd.R_ne HO_5.out BK199.out (by decide))); have n1_ := Aside0.mk (hb); have n2_ := Aside0.mk (ho); clear BK199; clear HB; clear HO_5; have BK199 := n0_; have HB := n1_; have HO210 := n2_; clear n0_ n1_ n2_; clear ho hb hg hat))
                  go_roundg k1
                  case measure => have := HK1.out; omega
                  case rel => exact ⟨(y208), (wrap64 (x15_1 + 1)), (by first | rfl | (simp; done) | (simp [*]; done)), H', ⟨by have := HK1.out; omega⟩, ⟨by (with_reducible repeat (first | apply Kd.R_alloc | apply Kd.R_drewN | apply Kd.R_drew)); exact HO210.out⟩, ⟨by (with_reducible repeat (first | refine blk_drewN ?_ _ | refine blk_drew ?_ | refine blk_alloc ?_ _)); exact BK199.out⟩, ⟨by repeat (first | (with_reducible first | exact HB.out | apply below_alloc | apply pw_below_drewN | apply below_drew1 | refine below_set ?_ GE199.out) | exact HB.out)⟩⟩
                · rw [if_neg c15] at H
                  exact absurd H (by simp)
              · rw [if_neg c14] at H
                have c14b0 : decide (0 ≤ t207) = false := decide_eq_false c14
                clear c14
                have H' := Aside0.mk H
                clear H
                have p206 : 0 ≤ (x15_1 : Int) := of_decide_eq_true (by first | (with_reducible assumption) | assumption)
                have q206 : x15_1 < (l1_1.length : Int) := of_decide_eq_true (by first | (with_reducible assumption) | assumption)
                obtain ⟨ad206, e206, hx206_0⟩ := Kd.at_string HR1_1.out x15_1 p206 q206
                cases e206
                replace hx206_0 := (HB.out.cell (World.block_lt_of_cell? w _ hx206_0)).trans hx206_0
                replace p206 := eq_true p206
                replace q206 := eq_true q206
                go_wp2_with (first | ((with_reducible refine gate_callee (f := 44) rfl ?_); refine goesL_ (some 21) rfl rfl Try.func44 (by kernel_rfl) rfl #[.slice A0 l0.length c0, .string (rdOf ByteArray.empty l1_1 x15_1)] rfl (by (try simp only [List.map_toArray, List.map_cons, List.map_nil]); first | done | rfl | (simp only [List.length_drop, List.length_take]; rfl)) ?_; (with_reducible refine (impl_unitOf.calls k1 _ _ l0 (rdOf ByteArray.empty l1_1 x15_1) t207 _ ?side1 ?side2 A13.out).mono ?_); (case side1 => repeat (first | exact (Kd.C_below HR0.out HB.out) | (with_reducible refine Kd.C_alloc ?_ _) | (with_reducible refine Kd.C_drewN ?_ _) | (with_reducible refine Kd.C_drew ?_))); (case side2 => exact HC0.out); rintro e w18 ⟨rfl, hb⟩; refine ⟨_, rfl, ?_⟩; have n0_ := Aside0.mk (Kd.R_below (by (with_reducible repeat (first | apply Kd.R_alloc | apply Kd.R_drewN | apply Kd.R_drew)); exact HO_5.out) hb); have n1_ := Aside0.mk (blk_below (g := gb199) (o := .cells #[.string a1_0, .slice (some ad206) l1_1.length c1_1, .slice A1_2 l1_2.length c1_2, .string a1_3, .bool a1_4] 32 (0, 0)) (by (with_reducible repeat (first | refine blk_drewN ?_ _ | refine blk_drew ?_ | refine blk_alloc ?_ _)); exact BK199.out) hb); have n2_ := Aside0.mk (below_step (by repeat (first | (with_reducible first | exact HB.out | apply below_alloc | apply pw_below_drewN | apply below_drew1 | refine below_set ?_ GE199.out) | exact HB.out)) hb); clear HO_5; clear BK199; clear HB; have HO_5 := n0_; have BK199 := n1_; have HB := n2_; clear n0_ n1_ n2_; (try clear hb); (try clear hb2); (try clear hk); (try clear hi)))
                go_roundg k1
                case measure => have := HK1.out; omega
                case rel => exact ⟨(x5_1), (wrap64 (x15_1 + 1)), (by first | rfl | (simp; done) | (simp [*]; done)), H', ⟨by have := HK1.out; omega⟩, ⟨by (with_reducible repeat (first | apply Kd.R_alloc | apply Kd.R_drewN | apply Kd.R_drew)); exact HO_5.out⟩, ⟨by (with_reducible repeat (first | refine blk_drewN ?_ _ | refine blk_drew ?_ | refine blk_alloc ?_ _)); exact BK199.out⟩, ⟨by repeat (first | (with_reducible first | exact HB.out | apply below_alloc | apply pw_below_drewN | apply below_drew1 | refine below_set ?_ GE199.out) | exact HB.out)⟩⟩
            · rw [if_neg c12] at H
              exact absurd H (by simp)
          · rw [if_neg c11] at H
            exact absurd H (by simp)
        · rw [if_neg c10] at H
          have c10b0 : decide (x15_1 < (l1_1.length : Int)) = false := decide_eq_false c10
          clear c10
          replace H := Option.bind_eq_some_iff.mp H
          obtain ⟨t211, A190, H⟩ := H
          replace H : (some t211) = some r := H
          have A19 := Aside0.mk A190
          clear A190
          obtain rfl := Option.some.inj H
          obtain ⟨Ao20, co20, eo20⟩ := Kd.R_slice HO_5.out
          subst eo20
          go_wp2_with (first | ((with_reducible refine gate_callee (f := 69) rfl ?_); refine goesL_ (some 29) rfl rfl Try.func69 (by kernel_rfl) rfl #[.slice Ao20 x5_1.length co20] rfl (by (try simp only [List.map_toArray, List.map_cons, List.map_nil]); first | done | rfl | (simp only [List.length_drop, List.length_take]; rfl)) ?_; (with_reducible refine (impl_sortedSet.calls _ _ x5_1 t211 _ ?side1 ?side2 A19.out).mono ?_); (case side1 => repeat (first | exact (Kd.R_reads' HO_5.out).2.2 | (with_reducible refine Kd.C_alloc ?_ _) | (with_reducible refine Kd.C_drewN ?_ _) | (with_reducible refine Kd.C_drew ?_))); (case side2 => exact (Kd.R_reads' HO_5.out).2.1); rintro e w21 ⟨v212, rfl, ho0, hb⟩; refine ⟨_, rfl, ?_⟩; have n0_ := Aside0.mk (Kd.R_elder' (by (with_reducible repeat (first | apply Kd.R_alloc | apply Kd.R_drewN | apply Kd.R_drew)); exact HO_5.out) (Kd.R_base ho0) hb); have n1_ := Aside0.mk (Kd.R_lower (Kd.R_new' ho0 (Kd.R_lt (by (with_reducible repeat (first | apply Kd.R_alloc | apply Kd.R_drewN | apply Kd.R_drew)); exact HO_5.out))) (below_size (by repeat (first | (with_reducible first | exact HB.out | apply below_alloc | apply pw_below_drewN | apply below_drew1 | refine below_set ?_ GE199.out) | exact HB.out)))); have n2_ := Aside0.mk (blk_below (g := gb199) (o := .cells #[.string a1_0, .slice A1_1 l1_1.length c1_1, .slice A1_2 l1_2.length c1_2, .string a1_3, .bool a1_4] 32 (0, 0)) (by (with_reducible repeat (first | refine blk_drewN ?_ _ | refine blk_drew ?_ | refine blk_alloc ?_ _)); exact BK199.out) hb); have n3_ := Aside0.mk (below_step (by repeat (first | (with_reducible first | exact HB.out | apply below_alloc | apply pw_below_drewN | apply below_drew1 | refine below_set ?_ GE199.out) | exact HB.out)) hb); clear HO_5; clear BK199; clear HB; have HO_5 := n0_; have HO213 := n1_; have BK199 := n2_; have HB := n3_; clear n0_ n1_ n2_ n3_; (try clear hb); (try clear hb2); (try clear hk); (try clear hi); (try clear ho0)))
          go_ret
          exact ⟨_, by first | rfl | (simp [errW_none, errW_some] <;> rfl) | (simp [*, errW_none, errW_some] <;> rfl), by (with_reducible repeat (first | apply Kd.R_alloc | apply Kd.R_drewN | apply Kd.R_drew)); exact Kd.R_mono HO213.out (fun _ hk => trivial), by repeat (first | (with_reducible first | exact HB.out | apply below_alloc | apply pw_below_drewN | apply below_drew1 | refine below_set ?_ GE199.out) | exact HB.out)⟩
  · rw [if_neg c3] at H
    exact absurd H (by simp)
end Go.Proofs.Ytnjmhlhlmokjnaa.G
namespace Go.Proofs.Ytnjmhlhlmokjnaa.G
open Go.RowKit Go.Proofs.YtnjmhlhlmokjnaaW.PrintWords Go.Proofs.YtnjmhlhlmokjnaaW.PrintLast Go.Proofs.YtnjmhlhlmokjnaaW.PrintMore
attribute [local go_sem] max2_int min2_int max_two min_two max_three min_three max_four min_four
set_option linter.unusedVariables false
set_option linter.unusedSimpArgs false
end Go.Proofs.Ytnjmhlhlmokjnaa.G
namespace Go.Proofs.Ytnjmhlhlmokjnaa.G
open Go.RowKit Go.Proofs.YtnjmhlhlmokjnaaW.PrintWords Go.Proofs.YtnjmhlhlmokjnaaW.PrintLast Go.Proofs.YtnjmhlhlmokjnaaW.PrintMore
attribute [local go_sem] max2_int min2_int max_two min_two max_three min_three max_four min_four
set_option linter.unusedVariables false
set_option linter.unusedSimpArgs false
end Go.Proofs.Ytnjmhlhlmokjnaa.G
namespace Go.Proofs.Ytnjmhlhlmokjnaa.G
open Go.RowKit Go.Proofs.YtnjmhlhlmokjnaaW.PrintWords Go.Proofs.YtnjmhlhlmokjnaaW.PrintLast
set_option linter.unusedVariables false
set_option linter.unusedSimpArgs false
theorem nodup_sub_len : ∀ {xs l : List ByteArray}, xs.Nodup → (∀ x ∈ xs, x ∈ l) → xs.length ≤ l.length
  | [], _, _, _ => Nat.zero_le _
  | x :: xs, l, h, hs => by
    have h' := List.nodup_cons.1 h
    letI : BEq ByteArray := instBEqOfDecidableEq
    have := nodup_sub_len (xs := xs) (l := l.erase x) h'.2 (fun y hy => (List.mem_erase_of_ne (fun e => h'.1 (by rw [← e]; exact hy))).2 (hs y (by simp [hy])))
    have h2 := List.length_erase_of_mem (hs x (by simp))
    have h3 := List.length_pos_of_mem (hs x (by simp))
    simp only [List.length_cons]
    omega
def condB (us : List S32) (br o : List ByteArray) (u : S32) : Bool := decide (u.f0 ∈ br) || badB us o u
def stepO (us : List S32) (br o : List ByteArray) (u : S32) : List ByteArray := if condB us br o u = true then insB u.f0 o else o
structure OkO (us : List S32) (br o : List ByteArray) : Prop where
  asc : Asc o
  sound : ∀ x ∈ o, x ∈ failL us br
theorem OkO.len {us : List S32} {br o : List ByteArray} (h : OkO us br o) : o.length ≤ us.length := by
  have h1 := nodup_sub_len (asc_nodup h.asc) (fun x hx => of_decide_eq_true (failL_has x (h.sound x hx)))
  simpa [namesU] using h1
theorem badB_mono {us : List S32} {o o' : List ByteArray} (h : ∀ x ∈ o, x ∈ o') {u : S32} (hb : badB us o u = true) : badB us o' u = true := by
  obtain ⟨n, h1, h2⟩ := badB_iff.1 hb
  exact badB_iff.2 ⟨n, h1, h2.imp id (h n)⟩
theorem condB_mono {us : List S32} {br o o' : List ByteArray} (h : ∀ x ∈ o, x ∈ o') {u : S32} (hb : condB us br o u = true) : condB us br o' u = true := by
  unfold condB at hb ⊢
  rw [Bool.or_eq_true] at hb ⊢
  exact hb.imp id (badB_mono h)
theorem OkO.step {us : List S32} {br o : List ByteArray} (h : OkO us br o) {u : S32} (hu : u ∈ us) : OkO us br (stepO us br o u) := by
  unfold stepO
  split
  · rename_i hc
    refine ⟨asc_insB _ _ h.asc, fun x hx => ?_⟩
    rcases (mem_insB _ _ _).1 hx with rfl | hx
    · unfold condB at hc
      rw [Bool.or_eq_true] at hc
      rcases hc with hc | hc
      · exact failL_base (of_decide_eq_true hc) (decide_eq_true (List.mem_map.2 ⟨u, hu, rfl⟩))
      · obtain ⟨n, h1, h2⟩ := badB_iff.1 hc
        exact failL_closed us br u hu ⟨n, h1, h2.imp id (h.sound n)⟩
    · exact h.sound x hx
  · exact h
def Stable (us : List S32) (br o : List ByteArray) : Prop := ∀ u ∈ us, condB us br o u = true → u.f0 ∈ o
theorem Stable.congr {us : List S32} {br o o' : List ByteArray} (h : Stable us br o) (e : ∀ x, x ∈ o' ↔ x ∈ o) : Stable us br o' := fun u hu hc => (e _).2 (h u hu (condB_mono (fun x hx => (e x).1 hx) hc))
end Go.Proofs.Ytnjmhlhlmokjnaa.G
namespace Go.Proofs.Ytnjmhlhlmokjnaa.G
open Go.RowKit Go.Proofs.YtnjmhlhlmokjnaaW.PrintWords Go.Proofs.YtnjmhlhlmokjnaaW.PrintLast
set_option linter.unusedVariables false
set_option linter.unusedSimpArgs false
def waitsL (us : List S32) (u : S32) : List ByteArray := u.f2 ++ u.f1.filter (hasU us)
def readyB (us : List S32) (o : List ByteArray) (u : S32) : Bool := !decide (u.f0 ∈ o) && (waitsL us u).all (fun x => decide (x ∈ o))
def orderL (us : List S32) : Nat → List ByteArray → List ByteArray
  | 0, o => o
  | n + 1, o => match us.find? (readyB us o) with
    | none => o
    | some u => orderL us n (o ++ [u.f0])
def startL (us : List S32) : List ByteArray := orderL us us.length []
def impl_startOrder.f (us : List S32) : Option (List ByteArray) := if unitsOkB us = true then some (startL us) else none
structure OrdInv (us : List S32) (o : List ByteArray) : Prop where
  nodup : o.Nodup
  sub : ∀ x ∈ o, x ∈ namesU us
  now : orderL us (us.length - o.length) o = startL us
theorem OrdInv.len {us : List S32} {o : List ByteArray} (h : OrdInv us o) : o.length ≤ us.length := by
  have := nodup_sub_len h.nodup h.sub
  simpa [namesU] using this
theorem OrdInv.start (us : List S32) : OrdInv us [] := ⟨List.nodup_nil, fun x hx => (by cases hx), rfl⟩
theorem ready_not {us : List S32} {o : List ByteArray} {u : S32} (h : readyB us o u = true) : u.f0 ∉ o := by
  unfold readyB at h
  simp only [Bool.and_eq_true, Bool.not_eq_true', decide_eq_false_iff_not] at h
  exact h.1
theorem OrdInv.room {us : List S32} {o : List ByteArray} (h : OrdInv us o) {u : S32} (hu : u ∈ us) (hn : u.f0 ∉ o) : o.length < us.length := by
  have := nodup_sub_len (xs := u.f0 :: o) (l := namesU us) (List.nodup_cons.2 ⟨hn, h.nodup⟩) (fun x hx => by
    rcases List.mem_cons.1 hx with rfl | hx
    · exact List.mem_map.2 ⟨u, hu, rfl⟩
    · exact h.sub x hx)
  have h2 : o.length + 1 ≤ us.length := by simpa [namesU] using this
  omega
theorem OrdInv.next {us : List S32} {o : List ByteArray} (h : OrdInv us o) {u : S32} (hf : us.find? (readyB us o) = some u) : OrdInv us (o ++ [u.f0]) := by
  have hr := List.find?_some hf
  have hu := List.mem_of_find?_eq_some hf
  have hn := ready_not hr
  have hroom := h.room hu hn
  refine ⟨?_, ?_, ?_⟩
  · rw [List.nodup_append]
    refine ⟨h.nodup, by simp, ?_⟩
    intro a ha b hb
    rw [List.mem_singleton.1 hb]
    rintro rfl
    exact hn ha
  · intro x hx
    rcases List.mem_append.1 hx with hx | hx
    · exact h.sub x hx
    · rw [List.mem_singleton.1 hx]
      exact List.mem_map.2 ⟨u, hu, rfl⟩
  · have := h.now
    rw [show us.length - o.length = (us.length - (o.length + 1)) + 1 by omega] at this
    unfold orderL at this
    rw [hf] at this
    rw [← this]
    simp
theorem OrdInv.done {us : List S32} {o : List ByteArray} (h : OrdInv us o) (hf : us.find? (readyB us o) = none) : o = startL us := by
  rw [← h.now]
  cases us.length - o.length with
  | zero => rfl
  | succ n => unfold orderL; rw [hf]
theorem find_at {us : List S32} {p : S32 → Bool} {i : Nat} (hi : i < us.length) (hno : ∀ j : Nat, j < i → p (rd_T32 us (j : Int)) = false) (hp : p us[i] = true) : us.find? p = some us[i] := by
  rw [List.find?_eq_some_iff_getElem]
  refine ⟨hp, i, hi, rfl, fun j hj => ?_⟩
  have := hno j hj
  rw [rd_T32_nat us j (by omega)] at this
  simp [this]
theorem find_none {us : List S32} {p : S32 → Bool} (hno : ∀ j : Nat, j < us.length → p (rd_T32 us (j : Int)) = false) : us.find? p = none := by
  rw [List.find?_eq_none]
  intro x hx
  obtain ⟨j, hj, rfl⟩ := List.getElem_of_mem hx
  have := hno j hj
  rw [rd_T32_nat us j hj] at this
  simp [this]
theorem waits_loop (us : List S32) (hu : us.length ≤ 100) (f1 : List ByteArray) (h1 : f1.length ≤ 20) (hf : ∀ x ∈ f1, fine x) (d : Nat) : ∀ (i : Nat) (o : List ByteArray), i + d = f1.length → o.length ≤ 20 + i → (∀ x ∈ o, fine x) →
    Ev (fun k => impl_waits.l0 k us o f1 (f1.length : Int) (i : Int)) (canonL (o ++ (f1.drop i).filter (hasU us))) := by
  induction d with
  | zero =>
    intro i o hi ho hfo
    rw [List.drop_eq_nil_of_le (by omega), List.filter_nil, List.append_nil]
    refine Ev.step (f := fun _ => some (canonL o)) (fun k => ?_) (Ev.now _)
    rw [impl_waits.l0, if_neg (by omega)]
    unfold impl_sortedSet.f
    rw [if_pos ⟨by omega, hfo⟩]
    rfl
  | succ d ih =>
    intro i o hi ho hfo
    have hil : i < f1.length := by omega
    have hw : wrap64 ((i : Int) + 1) = ((i + 1 : Nat) : Int) := by rw [wrap_id (by omega) (by omega)]; omega
    rw [List.drop_eq_getElem_cons hil, List.filter_cons]
    refine Ev.step (fun k => by rw [impl_waits.l0, if_pos (by omega), if_pos (by omega), if_pos (by omega), rdOf_nat _ f1 i hil, hw]) (Ev.bind (unitOf_ev us f1[i] (by omega)) ?_)
    cases hh : hasU us f1[i] with
    | true =>
      have hge : findU us f1[i] ≥ 0 := by rw [findU_ge]; exact hh
      have hnew := ih (i + 1) (o ++ [f1[i]]) (by omega) (by simp; omega) (fun x hx => by
        rcases List.mem_append.1 hx with hx | hx
        · exact hfo x hx
        · rw [List.mem_singleton.1 hx]; exact hf _ (List.getElem_mem hil))
      rw [if_pos rfl]
      refine Ev.congr (fun k => by rw [if_pos hge, if_pos (by omega)]) ?_
      rw [List.append_assoc, List.singleton_append] at hnew
      exact hnew
    | false =>
      have hge : ¬ findU us f1[i] ≥ 0 := by rw [findU_ge, hh]; decide
      rw [if_neg (by decide)]
      exact Ev.congr (fun k => if_neg hge) (ih (i + 1) o (by omega) (by omega) hfo)
theorem waits_ev (us : List S32) (hu : us.length ≤ 100) (u : S32) (hg : UnitGood u) : Ev (fun k => impl_waits.f k us u.f0 u.f1 u.f2 u.f3 u.f4) (canonL (waitsL us u)) := by
  have h2 := hg.needs
  refine Ev.congr (f := fun k => impl_waits.l0 k us u.f2 u.f1 (u.f1.length : Int) 0) (fun k => ?_) ?_
  · unfold impl_waits.f
    simp only [Option.bind_some, List.length_nil, List.nil_append, Nat.zero_add]
    rw [if_pos (by omega)]
  · have := waits_loop us hu u.f1 hg.after hg.fafter u.f1.length 0 u.f2 (by omega) (by omega) hg.fneeds
    rw [List.drop_zero] at this
    exact this
theorem waits_c (A0 : Option Addr) (c0 : Nat) (l0 : List S32) (hu : l0.length ≤ 100) (u : S32) (hg : UnitGood u) (A1 : Option Addr) (c1 : Nat) (A2 : Option Addr) (c2 : Nat) (w : World) (hr0 : Kd.C k32 w A0 l0.length l0) (hc0 : l0.length ≤ c0)
    (hr1 : Kd.C Kd.string w A1 u.f1.length u.f1) (hc1 : u.f1.length ≤ c1) (hr2 : Kd.C Kd.string w A2 u.f2.length u.f2) (hc2 : u.f2.length ≤ c2) :
    Calls Try.prog 62 #[.slice A0 l0.length c0, .agg #[.string u.f0, .slice A1 u.f1.length c1, .slice A2 u.f2.length c2, .string u.f3, .bool u.f4]] w fun e w' => ∃ v0_ : Value, e = .returned (v0_) ∧ Kd.R Kd.string 9 w' w.heap.size (fun _ => True) v0_ (canonL (waitsL l0 u)) ∧ Below w.heap.size w w' := by
  obtain ⟨k, hk⟩ := (waits_ev l0 hu u hg).rounds
  exact impl_waits.calls k A0 c0 l0 u.f0 A1 c1 u.f1 A2 c2 u.f2 u.f3 u.f4 _ w hr0 hc0 hr1 hc1 hr2 hc2 hk
end Go.Proofs.Ytnjmhlhlmokjnaa.G
namespace Go.Proofs.Ytnjmhlhlmokjnaa.G
open Go.RowKit Go.Maps Go.Proofs.YtnjmhlhlmokjnaaW.PrintWords Go.Proofs.YtnjmhlhlmokjnaaW.PrintLast
set_option linter.unusedVariables false
set_option linter.unusedSimpArgs false
theorem waits_len {us : List S32} {u : S32} (hg : UnitGood u) : (canonL (waitsL us u)).length ≤ 40 := by
  have h1 := nodup_sub_len (asc_nodup (asc_canonL (waitsL us u))) (l := u.f2 ++ u.f1) (fun x hx => by
    rw [mem_canonL] at hx
    unfold waitsL at hx
    rcases List.mem_append.1 hx with hx | hx
    · exact List.mem_append_left _ hx
    · exact List.mem_append_right _ (List.mem_filter.1 hx).1)
  have h2 := hg.after
  have h3 := hg.needs
  rw [List.length_append] at h1
  omega
theorem waits_fine {us : List S32} {u : S32} (hg : UnitGood u) : ∀ x ∈ canonL (waitsL us u), fine x := by
  intro x hx
  rw [mem_canonL] at hx
  unfold waitsL at hx
  rcases List.mem_append.1 hx with hx | hx
  · exact hg.fneeds x hx
  · exact hg.fafter x (List.mem_filter.1 hx).1
def allIn (o ws : List ByteArray) (q : Nat) : Bool := (ws.take q).all (fun x => decide (x ∈ o))
theorem allIn_step {o ws : List ByteArray} {q : Nat} (h : q < ws.length) : allIn o ws (q + 1) = (allIn o ws q && decide (rdOf ByteArray.empty ws (q : Int) ∈ o)) := by
  unfold allIn
  rw [rdOf_nat _ _ _ h, List.take_succ_eq_append_getElem h, List.all_append]
  simp
theorem allIn_ready {us : List S32} {o : List ByteArray} {u : S32} (hn : u.f0 ∉ o) : readyB us o u = allIn o (canonL (waitsL us u)) (canonL (waitsL us u)).length := by
  unfold readyB allIn
  rw [decide_eq_false hn, List.take_length]
  rw [Bool.eq_iff_iff]
  simp only [Bool.not_false, Bool.true_and, List.all_eq_true, mem_canonL]
set_option maxHeartbeats 8000000 in
set_option maxRecDepth 100000 in
theorem impl_startOrder.calls (A0 : Option Addr) (c0 : Nat) (l0 : List S32) (r : List ByteArray) (w : World) (hr0 : Kd.C k32 w A0 l0.length l0) (hc0 : l0.length ≤ c0) (h : impl_startOrder.f l0 = some r) :
    Calls Try.prog 59 #[.slice A0 l0.length c0] w fun e w' => ∃ v0_, e = .returned (v0_) ∧ Kd.R Kd.string 9 w' w.heap.size (fun _ => True) v0_ r ∧ Below w.heap.size w w' := by
  have hu32 := Try.underlying32
  have HR0 := Aside0.mk hr0
  have HC0 := Aside0.mk hc0
  clear hr0 hc0
  have hok : unitsOkB l0 = true := by
    cases c : unitsOkB l0 with
    | true => rfl
    | false => unfold impl_startOrder.f at h; rw [c] at h; cases h
  have hr : r = startL l0 := by
    unfold impl_startOrder.f at h
    rw [if_pos hok] at h
    exact (Option.some.inj h).symm
  clear h
  subst hr
  have HG := Aside0.mk (good_of_ok hok)
  have hl100 : l0.length ≤ 100 := HG.out.len
  have hmm := @run_makeMap Try.prog
  go_enter Try.func59, Try.ntmps59
  go_wp2_with (first | ((with_reducible refine gate_dst (N := 11) rfl ?_); refine Kd.R_lit Kd.string (w0 := w) w.heap.size 9 ?hg (N := 11) ?hd (xs := ([] : List ByteArray)) (inner := []) (ok := fun _ => True) (okp := fun _ => False) ?hr ?hp (fun _ hk => hk.elim) trivial (Below.refl _ _) (Nat.le_refl _) (by simp) ?_; (case hd => rfl); (case hg => rfl); (case hr => first | (go_simp; done) | (go_simp; rfl)); (case hp => exact (Reps.none _ _)); intro v w3 ho hb hg_ hnew_) | fail)
  have HO3 := Aside0.mk (Kd.R_alloc (Kd.R_mono (ok' := fun k => k ≠ w3.heap.size) (Kd.R_bound ho) (fun k hk => Nat.ne_of_lt hk.2.2.1)) (.map #[] 0))
  have HB3 := Aside0.mk (below_alloc hb (.map #[] 0))
  have HS3 := Aside0.mk (SetM.made w3)
  have hbm : w.heap.size ≤ w3.heap.size := hb.size
  obtain ⟨bm, hbme⟩ : ∃ b, b = w3.heap.size := ⟨_, rfl⟩
  rw [← hbme] at HO3 HS3 hbm ⊢
  clear hbme ho hb hg_ hnew_
  obtain ⟨K, hK⟩ : ∃ K, K = l0.length + 2 := ⟨_, rfl⟩
  go_loopg [3, 5] K (fun kq v3 v5 wr => ∃ (m : Bool) (n : Nat) (S : ByteArray → Bool) (o : List ByteArray), v5 = .bool m ∧ n ≤ o.length ∧ Aside0 (SetM wr bm n S) ∧ Aside0 (Kd.R Kd.string 9 wr w.heap.size (fun k => k ≠ bm) v3 o) ∧ Aside0 (OrdInv l0 o) ∧ Aside0 (∀ x, S x = decide (x ∈ o)) ∧ Aside0 (m = false → l0.find? (readyB l0 o) = none) ∧ Aside0 (Below w.heap.size w wr) ∧ Aside0 (kq ≤ K) ∧ Aside0 (1 ≤ kq ∧ (m = true → l0.length + 2 ≤ o.length + kq)))
  case atStart => exact ⟨true, 0, _, [], rfl, Nat.le_refl _, HS3, HO3, ⟨OrdInv.start _⟩, ⟨by simp⟩, ⟨by simp⟩, HB3, ⟨Nat.le_refl _⟩, ⟨by omega, by simp; omega⟩⟩
  case round =>
    clear HO3 HB3 HS3
    obtain ⟨m, n, S, o, rfl, hn, HS, HO, HI, HM, HF, HB, HK1, HK2⟩ := hrel
    cases gk with
    | zero => exact absurd HK2.out.1 (by omega)
    | succ k1 =>
      cases m with
      | false =>
        obtain ⟨A6, c6, hv⟩ := Kd.R_slice HO.out
        subst hv
        have hres := HI.out.done (HF.out rfl)
        go_wp2_with fail
        go_ret
        exact ⟨_, rfl, by rw [← hres]; exact Kd.R_mono HO.out (fun _ _ => trivial), HB.out⟩
      | true =>
        have HK := Aside0.mk (HK2.out.2 rfl)
        have hol := HI.out.len
        go_wp2_with fail
        go_loopw [16, 3, 5] (fun v16 v3 v5 wr => ∃ (i : Nat), v16 = .int .i64 i ∧ v5 = .bool false ∧ i ≤ l0.length ∧ Aside0 (SetM wr bm n S) ∧ Aside0 (Kd.R Kd.string 9 wr w.heap.size (fun k => k ≠ bm) v3 o) ∧ Aside0 (Below w.heap.size w wr) ∧ Aside0 (∀ j : Nat, j < i → readyB l0 o (rd_T32 l0 (j : Int)) = false)) (fun v16 _ _ _ => l0.length - (intOf v16).toNat)
        case atStart => exact ⟨0, rfl, rfl, Nat.zero_le _, HS, HO, HB, ⟨fun j hj => absurd hj (Nat.not_lt_zero _)⟩⟩
        case round =>
          clear HS HO HB HF
          obtain ⟨i, rfl, rfl, hi, HS, HO, HB, HN⟩ := hrel
          by_cases hlt : i < l0.length
          · obtain ⟨ad, A1, c1, A2, c2, hA, x0, x1, x2, x3, x4, l1, g1, l2, g2⟩ := at_T32 HR0.out (i : Int) (by omega) (by omega)
            cases hA
            simp only [Int.toNat_natCast] at x0 x1 x2 x3 x4
            obtain ⟨u, hu0⟩ : ∃ u, u = rd_T32 l0 (i : Int) := ⟨_, rfl⟩
            have HU := Aside0.mk hu0
            rw [← hu0] at x0 x1 x2 x3 x4 g1 g2 l1 l2
            have hum : u ∈ l0 := by rw [hu0]; exact rdT_mem hlt
            clear hu0
            have G1 := Aside0.mk (Kd.C_alloc (Kd.C_below g1 HB.out) (.cells #[Value.string u.f0, Value.slice A1 u.f1.length c1, Value.slice A2 u.f2.length c2, Value.string u.f3, Value.bool u.f4] 32))
            have G2 := Aside0.mk (Kd.C_alloc (Kd.C_below g2 HB.out) (.cells #[Value.string u.f0, Value.slice A1 u.f1.length c1, Value.slice A2 u.f2.length c2, Value.string u.f3, Value.bool u.f4] 32))
            have L1 := Aside0.mk l1
            have L2 := Aside0.mk l2
            clear g1 g2 l1 l2
            have hug := unit_good (HG.out.unit u hum)
            replace x0 := (HB.out.cell (World.block_lt_of_cell? w _ x0)).trans x0
            replace x1 := (HB.out.cell (World.block_lt_of_cell? w _ x1)).trans x1
            replace x2 := (HB.out.cell (World.block_lt_of_cell? w _ x2)).trans x2
            replace x3 := (HB.out.cell (World.block_lt_of_cell? w _ x3)).trans x3
            replace x4 := (HB.out.cell (World.block_lt_of_cell? w _ x4)).trans x4
            have HSa := Aside0.mk (HS.out.alloc (.cells #[Value.string u.f0, Value.slice A1 u.f1.length c1, Value.slice A2 u.f2.length c2, Value.string u.f3, Value.bool u.f4] 32))
            have HBa := Aside0.mk (below_alloc HB.out (.cells #[Value.string u.f0, Value.slice A1 u.f1.length c1, Value.slice A2 u.f2.length c2, Value.string u.f3, Value.bool u.f4] 32))
            have HOa := Aside0.mk (Kd.R_alloc HO.out (.cells #[Value.string u.f0, Value.slice A1 u.f1.length c1, Value.slice A2 u.f2.length c2, Value.string u.f3, Value.bool u.f4] 32))
            have hcell := cell_new_unit wr (s := Value.string u.f0) (a := Value.slice A1 u.f1.length c1) (b := Value.slice A2 u.f2.length c2) (c := Value.string u.f3) (d := Value.bool u.f4) trivial
            have hszn : wr.heap.size < (wr.alloc (.cells #[Value.string u.f0, Value.slice A1 u.f1.length c1, Value.slice A2 u.f2.length c2, Value.string u.f3, Value.bool u.f4] 32)).heap.size := blk_lt (blk_new _ _)
            have hwb : bm < wr.heap.size := HS.out.lt
            cases hS : S u.f0 with
            | true =>
              go_wp2_with (first | (at_lookup; refine wpList_set_look _ rfl _ _ rfl bm n S u.f0 rfl rfl HSa.out hug.name ?_; rw [hS]) | fail)
              go_roundw
              case rel =>
                exact ⟨i + 1, by simp, rfl, hlt, HSa, HOa, HBa, ⟨fun j hj => by
                  rcases Nat.lt_or_ge j i with h | h
                  · exact HN.out j h
                  · obtain rfl : j = i := by omega
                    rw [← HU.out]
                    have hx : u.f0 ∈ o := of_decide_eq_true ((HM.out _).symm.trans hS)
                    unfold readyB
                    rw [decide_eq_true hx]
                    rfl⟩⟩
              case measure => simp [intOf]; omega
            | false =>
              have hno : u.f0 ∉ o := of_decide_eq_false ((HM.out _).symm.trans hS)
              go_wp2_with (first | (at_lookup; refine wpList_set_look _ rfl _ _ rfl bm n S u.f0 rfl rfl HSa.out hug.name ?_; rw [hS]) | (go_at_call 62; refine (waits_c (some ad) c0 l0 hl100 u hug A1 c1 A2 c2 _ (Kd.C_alloc (Kd.C_below HR0.out HB.out) _) HC0.out G1.out L1.out G2.out L2.out).mono ?_; rintro e w5 ⟨vw, rfl, hw5, hb5⟩; obtain ⟨A5, c5, hv5⟩ := Kd.R_slice hw5; subst hv5) | fail)
              have hwl := waits_len (us := l0) hug
              have hwf := waits_fine (us := l0) hug
              have hrdy := allIn_ready (us := l0) hno
              obtain ⟨ws, hws⟩ : ∃ ws, ws = canonL (waitsL l0 u) := ⟨_, rfl⟩
              rw [← hws] at hw5 hwl hwf hrdy ⊢
              clear hws
              have HW5 := Aside0.mk (Kd.R_reads' hw5).2.2
              have HS5 := Aside0.mk (HSa.out.below hb5)
              have HO5 := Aside0.mk (Kd.R_below HOa.out hb5)
              have HB5 := Aside0.mk (below_weaken HBa.out HBa.out.size hb5)
              have hcell5 := (hb5.cell (p := ⟨wr.heap.size, 0, none⟩) hszn).trans hcell
              have hsz5 : wr.heap.size < w5.heap.size := Nat.lt_of_lt_of_le hszn hb5.size
              obtain ⟨pb, hpb⟩ : ∃ p, p = wr.heap.size := ⟨_, rfl⟩
              rw [← hpb] at hcell5 hwb hsz5 ⊢
              have HRD := Aside0.mk hrdy
              have HWF := Aside0.mk hwf
              clear hrdy hwf hcell hszn hw5 HSa HOa HBa hpb hb5
              go_loopw [28, 8] (fun v28 v8 w6 => ∃ (q : Nat), v28 = .int .i64 q ∧ v8 = .bool (allIn o ws q) ∧ q ≤ ws.length ∧ w6 = w5) (fun v28 _ _ => ws.length - (intOf v28).toNat)
              case atStart => exact ⟨0, rfl, rfl, Nat.zero_le _, rfl⟩
              case round =>
                obtain ⟨q, rfl, rfl, hq, rfl⟩ := hrel
                by_cases hlq : q < ws.length
                · obtain ⟨ad2, hA2, y0⟩ := Kd.at_string HW5.out (q : Int) (by omega) (by omega)
                  cases hA2
                  have hst := allIn_step (o := o) hlq
                  have hfx := HWF.out _ (rd_mem hlq)
                  obtain ⟨x, hx0⟩ : ∃ x, x = rdOf ByteArray.empty ws (q : Int) := ⟨_, rfl⟩
                  rw [← hx0] at y0 hst hfx
                  simp only [Int.toNat_natCast] at y0
                  clear hx0
                  have hlook := HS5.out.look hfx
                  rw [HM.out x] at hlook
                  cases hall : allIn o ws q with
                  | false =>
                    rw [hall, Bool.false_and] at hst
                    go_wp2_with fail
                    go_roundw
                    case rel => exact ⟨q + 1, by simp, by rw [hst], hlq, (by first | rfl | trivial)⟩
                    case measure => simp [intOf]; omega
                  | true =>
                    rw [hall, Bool.true_and] at hst
                    cases hin : decide (x ∈ o) with
                    | false =>
                      rw [hin] at hlook hst
                      go_wp2_with fail
                      go_roundw
                      case rel => exact ⟨q + 1, by simp, by rw [hst], hlq, (by first | rfl | trivial)⟩
                      case measure => simp [intOf]; omega
                    | true =>
                      rw [hin] at hlook hst
                      go_wp2_with fail
                      go_roundw
                      case rel => exact ⟨q + 1, by simp, by rw [hst], hlq, (by first | rfl | trivial)⟩
                      case measure => simp [intOf]; omega
                · have hqe : q = ws.length := by omega
                  subst hqe
                  cases hrd : readyB l0 o u with
                  | false =>
                    have hall : allIn o ws ws.length = false := HRD.out.symm.trans hrd
                    rw [hall]
                    go_wp2_with fail
                    go_roundw
                    case rel =>
                      exact ⟨i + 1, by simp, rfl, hlt, HS5, HO5, HB5, ⟨fun j hj => by
                        rcases Nat.lt_or_ge j i with h | h
                        · exact HN.out j h
                        · obtain rfl : j = i := by omega
                          rw [← HU.out]
                          exact hrd⟩⟩
                    case measure => simp [intOf]; omega
                  | true =>
                    have hall : allIn o ws ws.length = true := HRD.out.symm.trans hrd
                    rw [hall]
                    go_wp2_with (first | (at_mapUpdate; refine wpList_set_put _ rfl _ _ _ rfl bm n S u.f0 rfl rfl rfl HS5.out (by omega) hug.name ?_; intro w6 hs6 hg6; have hcell6 := (cell_of_block (o := 0) (hg6.block pb hsz5 (by simp; omega))).trans hcell5; have hO6 := Kd.R_grown HO5.out hg6 (fun k hk => by simpa using hk); have hB6 := HB5.out.grown hg6 HB5.out.size (fun k hk => by cases hk; exact hbm)) | ((with_reducible refine gate_builtin (b := .append) (xs := #[.tmp 43, .tmp 46]) rfl ?_); at_builtin; refine Kd.R_append Kd.string (w0 := w) w.heap.size rfl (.tmp 43) (.tmp 46) 25 9 (.string ⟨#[]⟩) 16 rfl Try.underlying25 info9 rfl (by decide) (by omega) u3 o u.f0 [.string u.f0] (fun k => k ≠ bm) (fun _ => False) rfl rfl ?aP (fun _ hk => hk.elim) ?aF hO6 hB6 ?aS ?aL ?_; (case aP => exact rfl); (case aF => exact (fun k hk => by have := hg6.size; omega)); (case aS => exact hB6.size); (case aL => omega); intro v1 w7 ho7 hb7 hg7 hat7) | fail)
                    have hf := find_at hlt HN.out (by rw [← rd_T32_nat l0 i hlt, ← HU.out]; exact hrd)
                    have hf2 : l0.find? (readyB l0 o) = some u := by rw [hf, HU.out, rd_T32_nat l0 i hlt]
                    have hroom := HI.out.room hum hno
                    go_roundg k1
                    case measure => have := HK1.out; omega
                    case rel =>
                      refine ⟨true, n + 1, _, o ++ [u.f0], by simp, by simp; omega, ⟨hs6.grown hg7 (fun e => (HO5.out.1 _ e.symm) rfl)⟩, ⟨ho7⟩, ⟨HI.out.next hf2⟩, ⟨fun x => ?_⟩, ⟨by simp⟩, ⟨hb7⟩, ⟨by have := HK1.out; omega⟩, ⟨by have := HK.out; omega, fun _ => by have := HK.out; simp; omega⟩⟩
                      rw [HM.out x]
                      simp only [List.mem_append, List.mem_singleton, Bool.decide_or]
                      rw [Bool.or_comm]
          · have hie : i = l0.length := by omega
            subst hie
            go_wp2_with fail
            go_roundg k1
            case measure => have := HK1.out; omega
            case rel => exact ⟨false, n, S, o, rfl, hn, HS, HO, HI, HM, ⟨fun _ => find_none HN.out⟩, HB, ⟨by have := HK1.out; omega⟩, ⟨by have := HK.out; omega, by simp⟩⟩
end Go.Proofs.Ytnjmhlhlmokjnaa.G
namespace Go.Proofs.Ytnjmhlhlmokjnaa.G
open Go.RowKit Go.Proofs.YtnjmhlhlmokjnaaW.PrintWords Go.Proofs.YtnjmhlhlmokjnaaW.PrintLast Go.Proofs.YtnjmhlhlmokjnaaW.PrintMore
attribute [local go_sem] max2_int min2_int max_two min_two max_three min_three max_four min_four
set_option linter.unusedVariables false
set_option linter.unusedSimpArgs false
mutual
def spec_l18Ready.l0 : Nat → List (S32) → List ByteArray → Int → ByteArray → List ByteArray → List ByteArray → ByteArray → Bool → Option (Bool)
  | 0, _, _, _, _, _, _, _, _ => none
  | k + 1, x0, x2, x7, x120000, x120001, x120002, x120003, x120004 => if x7 < (x120002.length : Int) then (if 0 ≤ x7 then ((spec_l3Has.f k x2 (rdOf ByteArray.empty x120002 x7)).bind fun t121 => (if t121 = true then (spec_l18Ready.l0 k x0 x2 (wrap64 (x7 + 1)) x120000 x120001 x120002 x120003 x120004) else (some false))) else (none)) else (spec_l18Ready.l1 k x0 x2 0 x120000 x120001 x120002 x120003 x120004)
def spec_l18Ready.l1 : Nat → List (S32) → List ByteArray → Int → ByteArray → List ByteArray → List ByteArray → ByteArray → Bool → Option (Bool)
  | 0, _, _, _, _, _, _, _, _ => none
  | k + 1, x0, x2, x8, x120000, x120001, x120002, x120003, x120004 => if x8 < (x120001.length : Int) then (if 0 ≤ x8 then ((spec_l18Find.f k x0 (rdOf ByteArray.empty x120001 x8)).bind fun t123 => (if t123 ≥ 0 then ((spec_l3Has.f k x2 (rdOf ByteArray.empty x120001 x8)).bind fun t125 => (if t125 = true then (spec_l18Ready.l1 k x0 x2 (wrap64 (x8 + 1)) x120000 x120001 x120002 x120003 x120004) else (some false))) else (spec_l18Ready.l1 k x0 x2 (wrap64 (x8 + 1)) x120000 x120001 x120002 x120003 x120004))) else (none)) else (some true)
end
def spec_l18Ready.f (k : Nat) (l0 : List (S32)) (a1_0 : ByteArray) (l1_1 : List ByteArray) (l1_2 : List ByteArray) (a1_3 : ByteArray) (a1_4 : Bool) (l2 : List ByteArray) : Option (Bool) := spec_l18Ready.l0 k l0 l2 0 a1_0 l1_1 l1_2 a1_3 a1_4
set_option maxHeartbeats 8000000 in
set_option maxRecDepth 100000 in
theorem spec_l18Ready.calls (k : Nat) (A0 : Option Addr) (c0 : Nat) (l0 : List (S32)) (a1_0 : ByteArray) (A1_1 : Option Addr) (c1_1 : Nat) (l1_1 : List ByteArray) (A1_2 : Option Addr) (c1_2 : Nat) (l1_2 : List ByteArray) (a1_3 : ByteArray) (a1_4 : Bool) (A2 : Option Addr) (c2 : Nat) (l2 : List ByteArray) (r : Bool) (w : World) (hr0 : Kd.C k32 w A0 l0.length l0) (hc0 : l0.length ≤ c0) (hr1_1 : Kd.C Kd.string w A1_1 l1_1.length l1_1) (hc1_1 : l1_1.length ≤ c1_1) (hr1_2 : Kd.C Kd.string w A1_2 l1_2.length l1_2) (hc1_2 : l1_2.length ≤ c1_2) (hr2 : Kd.C Kd.string w A2 l2.length l2) (hc2 : l2.length ≤ c2) (h : spec_l18Ready.f k l0 a1_0 l1_1 l1_2 a1_3 a1_4 l2 = some r) :
    Calls Try.prog 58 #[.slice A0 l0.length c0, .agg #[.string a1_0, .slice A1_1 l1_1.length c1_1, .slice A1_2 l1_2.length c1_2, .string a1_3, .bool a1_4], .slice A2 l2.length c2] w fun e w' => e = .returned (.bool r) ∧ Below w.heap.size w w' := by
  have hu32 := Try.underlying32
  have HR0 := Aside0.mk hr0
  have HC0 := Aside0.mk hc0
  clear hr0 hc0
  have HR1_1 := Aside0.mk hr1_1
  have HC1_1 := Aside0.mk hc1_1
  clear hr1_1 hc1_1
  have HR1_2 := Aside0.mk hr1_2
  have HC1_2 := Aside0.mk hc1_2
  clear hr1_2 hc1_2
  have HR2 := Aside0.mk hr2
  have HC2 := Aside0.mk hc2
  clear hr2 hc2
  have HB := Aside0.mk (Below.refl w.heap.size w)
  have H : (spec_l18Ready.l0 k l0 l2 0 a1_0 l1_1 l1_2 a1_3 a1_4) = some r := h
  clear h
  have H' := Aside0.mk H
  clear H
  go_enter Try.func58, Try.ntmps58
  go_wp2_with (first | ((with_reducible refine gate_dst (N := 4) rfl ?_); refine box_event ?hg (N := 4) ?hd (cs := #[.string a1_0, .slice A1_1 l1_1.length c1_1, .slice A1_2 l1_2.length c1_2, .string a1_3, .bool a1_4]) (t := 32) ?hr ?_; (case hd => rfl); (case hg => rfl); (case hr => first | (go_simp; done) | (go_simp; rfl)); intro gb119 hg w4 hbox hb; have n0_ := Aside0.mk (below_step (by repeat (first | (with_reducible first | exact HB.out | apply below_alloc | apply pw_below_drewN | apply below_drew1) | exact HB.out)) hb); have n1_ := Aside0.mk (hbox); have n2_ := Aside0.mk ((by rw [hg]; exact (below_size (by repeat (first | (with_reducible first | exact HB.out | apply below_alloc | apply pw_below_drewN | apply below_drew1) | exact HB.out))) : w.heap.size ≤ gb119)); have n3_ := Aside0.mk ((by rw [hg]; exact (below_size (by repeat (first | (with_reducible first | exact HB.out | apply below_alloc | apply pw_below_drewN | apply below_drew1) | exact HB.out))) : w.heap.size ≤ gb119)); clear HB; have HB := n0_; have BK119 := n1_; have GW119 := n2_; have GE119 := n3_; clear n0_ n1_ n2_ n3_; clear hb hbox hg))
  go_loopg [7] k (fun kq v7 w' => ∃ (x7_1 : Int), v7 = .int .i64 x7_1 ∧ Aside0 (spec_l18Ready.l0 kq l0 l2 x7_1 a1_0 l1_1 l1_2 a1_3 a1_4 = some r) ∧ Aside0 (kq ≤ k) ∧ Aside0 (w'.heap[gb119]? = some (.cells #[.string a1_0, (.slice A1_1 l1_1.length c1_1), (.slice A1_2 l1_2.length c1_2), .string a1_3, .bool a1_4] 32 (0, 0))) ∧ Aside0 (Below w.heap.size w w'))
  case atStart => exact ⟨(0), (by first | rfl | (simp; done) | (simp [*]; done)), H', ⟨Nat.le_refl _⟩, ⟨by (with_reducible repeat (first | refine blk_drewN ?_ _ | refine blk_drew ?_ | refine blk_alloc ?_ _)); exact BK119.out⟩, ⟨by repeat (first | (with_reducible first | exact HB.out | apply below_alloc | apply pw_below_drewN | apply below_drew1 | refine below_set ?_ GE119.out) | exact HB.out)⟩⟩
  case round =>
    clear H'
    try clear c1
    try clear c2
    try clear p2
    obtain ⟨x7_1, rfl, HA, HK1, BK119, HB⟩ := hrel
    cases gk with
    | zero => exact absurd HA.out (by simp [spec_l18Ready.l0])
    | succ k1 =>
      have H := HA.out
      clear HA
      simp only [spec_l18Ready.l0] at H
      by_cases c5 : x7_1 < (l1_2.length : Int)
      · rw [if_pos c5] at H
        have c5b0 : decide (x7_1 < (l1_2.length : Int)) = true := decide_eq_true c5
        clear c5
        by_cases c6 : 0 ≤ x7_1
        · rw [if_pos c6] at H
          have c6b0 : decide (0 ≤ x7_1) = true := decide_eq_true c6
          clear c6
          replace H := Option.bind_eq_some_iff.mp H
          obtain ⟨t121, A70, H⟩ := H
          replace H : (if t121 = true then (spec_l18Ready.l0 k1 l0 l2 (wrap64 (x7_1 + 1)) a1_0 l1_1 l1_2 a1_3 a1_4) else (some false)) = some r := H
          have A7 := Aside0.mk A70
          clear A70
          by_cases c8 : t121 = true
          · subst c8
            have H1 : (spec_l18Ready.l0 k1 l0 l2 (wrap64 (x7_1 + 1)) a1_0 l1_1 l1_2 a1_3 a1_4) = some r := by rw [if_pos rfl] at H; exact H
            clear H
            have H := H1
            clear H1
            have H' := Aside0.mk H
            clear H
            have hcz9_0 : wr.cell? ⟨gb119, 0, none⟩ = some (.string a1_0) := (blk_cell BK119.out 0).trans rfl
            have hcz9_1 : wr.cell? ⟨gb119, 1, none⟩ = some (.slice A1_1 l1_1.length c1_1) := (blk_cell BK119.out 1).trans rfl
            have hcz9_2 : wr.cell? ⟨gb119, 2, none⟩ = some (.slice A1_2 l1_2.length c1_2) := (blk_cell BK119.out 2).trans rfl
            have hcz9_3 : wr.cell? ⟨gb119, 3, none⟩ = some (.string a1_3) := (blk_cell BK119.out 3).trans rfl
            have hcz9_4 : wr.cell? ⟨gb119, 4, none⟩ = some (.bool a1_4) := (blk_cell BK119.out 4).trans rfl
            have hfz9_0 := blk_frozen BK119.out 0
            have hfz9_1 := blk_frozen BK119.out 1
            have hfz9_2 := blk_frozen BK119.out 2
            have hfz9_3 := blk_frozen BK119.out 3
            have hfz9_4 := blk_frozen BK119.out 4
            have p120 : 0 ≤ (x7_1 : Int) := of_decide_eq_true (by first | (with_reducible assumption) | assumption)
            have q120 : x7_1 < (l1_2.length : Int) := of_decide_eq_true (by first | (with_reducible assumption) | assumption)
            obtain ⟨ad120, e120, hx120_0⟩ := Kd.at_string HR1_2.out x7_1 p120 q120
            cases e120
            replace hx120_0 := (HB.out.cell (World.block_lt_of_cell? w _ hx120_0)).trans hx120_0
            replace p120 := eq_true p120
            replace q120 := eq_true q120
            go_wp2_with (first | ((with_reducible refine gate_callee (f := 51) rfl ?_); refine goesL_ (some 22) rfl rfl Try.func51 (by kernel_rfl) rfl #[.slice A2 l2.length c2, .string (rdOf ByteArray.empty l1_2 x7_1)] rfl (by (try simp only [List.map_toArray, List.map_cons, List.map_nil]); first | done | rfl | (simp only [List.length_drop, List.length_take]; rfl)) ?_; (with_reducible refine (spec_l3Has.calls k1 _ _ l2 (rdOf ByteArray.empty l1_2 x7_1) true _ ?side1 ?side2 A7.out).mono ?_); (case side1 => repeat (first | exact (Kd.C_below HR2.out HB.out) | (with_reducible refine Kd.C_alloc ?_ _) | (with_reducible refine Kd.C_drewN ?_ _) | (with_reducible refine Kd.C_drew ?_))); (case side2 => exact HC2.out); rintro e w' ⟨rfl, ⟨nd, rfl⟩⟩; refine ⟨_, rfl, ?_⟩))
            go_roundg k1
            case measure => have := HK1.out; omega
            case rel => exact ⟨(wrap64 (x7_1 + 1)), (by first | rfl | (simp; done) | (simp [*]; done)), H', ⟨by have := HK1.out; omega⟩, ⟨by (with_reducible repeat (first | refine blk_drewN ?_ _ | refine blk_drew ?_ | refine blk_alloc ?_ _)); exact BK119.out⟩, ⟨by repeat (first | (with_reducible first | exact HB.out | apply below_alloc | apply pw_below_drewN | apply below_drew1 | refine below_set ?_ GE119.out) | exact HB.out)⟩⟩
          · replace c8 := Bool.eq_false_iff.mpr c8
            subst c8
            have H1 : (some false) = some r := by rw [if_neg (show ¬ (false = true) by decide)] at H; exact H
            clear H
            have H := H1
            clear H1
            obtain rfl := Option.some.inj H
            have hcz10_0 : wr.cell? ⟨gb119, 0, none⟩ = some (.string a1_0) := (blk_cell BK119.out 0).trans rfl
            have hcz10_1 : wr.cell? ⟨gb119, 1, none⟩ = some (.slice A1_1 l1_1.length c1_1) := (blk_cell BK119.out 1).trans rfl
            have hcz10_2 : wr.cell? ⟨gb119, 2, none⟩ = some (.slice A1_2 l1_2.length c1_2) := (blk_cell BK119.out 2).trans rfl
            have hcz10_3 : wr.cell? ⟨gb119, 3, none⟩ = some (.string a1_3) := (blk_cell BK119.out 3).trans rfl
            have hcz10_4 : wr.cell? ⟨gb119, 4, none⟩ = some (.bool a1_4) := (blk_cell BK119.out 4).trans rfl
            have hfz10_0 := blk_frozen BK119.out 0
            have hfz10_1 := blk_frozen BK119.out 1
            have hfz10_2 := blk_frozen BK119.out 2
            have hfz10_3 := blk_frozen BK119.out 3
            have hfz10_4 := blk_frozen BK119.out 4
            have p120 : 0 ≤ (x7_1 : Int) := of_decide_eq_true (by first | (with_reducible assumption) | assumption)
            have q120 : x7_1 < (l1_2.length : Int) := of_decide_eq_true (by first | (with_reducible assumption) | assumption)
            obtain ⟨ad120, e120, hx120_0⟩ := Kd.at_string HR1_2.out x7_1 p120 q120
            cases e120
            replace hx120_0 := (HB.out.cell (World.block_lt_of_cell? w _ hx120_0)).trans hx120_0
            replace p120 := eq_true p120
            replace q120 := eq_true q120
            go_wp2_with (first | ((with_reducible refine gate_callee (f := 51) rfl ?_); refine goesL_ (some 22) rfl rfl Try.func51 (by kernel_rfl) rfl #[.slice A2 l2.length c2, .string (rdOf ByteArray.empty l1_2 x7_1)] rfl (by (try simp only [List.map_toArray, List.map_cons, List.map_nil]); first | done | rfl | (simp only [List.length_drop, List.length_take]; rfl)) ?_; (with_reducible refine (spec_l3Has.calls k1 _ _ l2 (rdOf ByteArray.empty l1_2 x7_1) false _ ?side1 ?side2 A7.out).mono ?_); (case side1 => repeat (first | exact (Kd.C_below HR2.out HB.out) | (with_reducible refine Kd.C_alloc ?_ _) | (with_reducible refine Kd.C_drewN ?_ _) | (with_reducible refine Kd.C_drew ?_))); (case side2 => exact HC2.out); rintro e w' ⟨rfl, ⟨nd, rfl⟩⟩; refine ⟨_, rfl, ?_⟩))
            go_ret
            exact ⟨by first | rfl | (simp [errW_none, errW_some] <;> rfl) | (simp [*, errW_none, errW_some] <;> rfl), by repeat (first | (with_reducible first | exact HB.out | apply below_alloc | apply pw_below_drewN | apply below_drew1 | refine below_set ?_ GE119.out) | exact HB.out)⟩
        · rw [if_neg c6] at H
          exact absurd H (by simp)
      · rw [if_neg c5] at H
        have c5b0 : decide (x7_1 < (l1_2.length : Int)) = false := decide_eq_false c5
        clear c5
        have H' := Aside0.mk H
        clear H
        have hcz11_0 : wr.cell? ⟨gb119, 0, none⟩ = some (.string a1_0) := (blk_cell BK119.out 0).trans rfl
        have hcz11_1 : wr.cell? ⟨gb119, 1, none⟩ = some (.slice A1_1 l1_1.length c1_1) := (blk_cell BK119.out 1).trans rfl
        have hcz11_2 : wr.cell? ⟨gb119, 2, none⟩ = some (.slice A1_2 l1_2.length c1_2) := (blk_cell BK119.out 2).trans rfl
        have hcz11_3 : wr.cell? ⟨gb119, 3, none⟩ = some (.string a1_3) := (blk_cell BK119.out 3).trans rfl
        have hcz11_4 : wr.cell? ⟨gb119, 4, none⟩ = some (.bool a1_4) := (blk_cell BK119.out 4).trans rfl
        have hfz11_0 := blk_frozen BK119.out 0
        have hfz11_1 := blk_frozen BK119.out 1
        have hfz11_2 := blk_frozen BK119.out 2
        have hfz11_3 := blk_frozen BK119.out 3
        have hfz11_4 := blk_frozen BK119.out 4
        go_wp2
        go_loopg [8] k1 (fun kq v8 w' => ∃ (x8_2 : Int), v8 = .int .i64 x8_2 ∧ Aside0 (spec_l18Ready.l1 kq l0 l2 x8_2 a1_0 l1_1 l1_2 a1_3 a1_4 = some r) ∧ Aside0 (kq ≤ k1) ∧ Aside0 (w'.heap[gb119]? = some (.cells #[.string a1_0, (.slice A1_1 l1_1.length c1_1), (.slice A1_2 l1_2.length c1_2), .string a1_3, .bool a1_4] 32 (0, 0))) ∧ Aside0 (Below w.heap.size w w'))
        case atStart => exact ⟨(0), (by first | rfl | (simp; done) | (simp [*]; done)), H', ⟨Nat.le_refl _⟩, ⟨by (with_reducible repeat (first | refine blk_drewN ?_ _ | refine blk_drew ?_ | refine blk_alloc ?_ _)); exact BK119.out⟩, ⟨by repeat (first | (with_reducible first | exact HB.out | apply below_alloc | apply pw_below_drewN | apply below_drew1 | refine below_set ?_ GE119.out) | exact HB.out)⟩⟩
        case round =>
          clear H'
          try clear c1
          try clear p1
          try clear q1
          try clear hx1
          try clear c2
          try clear p2
          try clear c5
          try clear c5b0
          try clear c6
          try clear c6b0
          try clear p6
          try clear c8
          try clear hcz10_0
          try clear hcz10_1
          try clear hcz10_2
          try clear hcz10_3
          try clear hcz10_4
          try clear hcz11_0
          try clear hcz11_1
          try clear hcz11_2
          try clear hcz11_3
          try clear hcz11_4
          try clear hcz9_0
          try clear hcz9_1
          try clear hcz9_2
          try clear hcz9_3
          try clear hcz9_4
          try clear hfz10_0
          try clear hfz10_1
          try clear hfz10_2
          try clear hfz10_3
          try clear hfz10_4
          try clear hfz11_0
          try clear hfz11_1
          try clear hfz11_2
          try clear hfz11_3
          try clear hfz11_4
          try clear hfz9_0
          try clear hfz9_1
          try clear hfz9_2
          try clear hfz9_3
          try clear hfz9_4
          try clear hx120_0
          try clear p120
          try clear p2
          try clear q120
          obtain ⟨x8_2, rfl, HA, HK2, BK119, HB⟩ := hrel
          cases gk with
          | zero => exact absurd HA.out (by simp [spec_l18Ready.l1])
          | succ k2 =>
            have H := HA.out
            clear HA
            simp only [spec_l18Ready.l1] at H
            by_cases c12 : x8_2 < (l1_1.length : Int)
            · rw [if_pos c12] at H
              have c12b0 : decide (x8_2 < (l1_1.length : Int)) = true := decide_eq_true c12
              clear c12
              by_cases c13 : 0 ≤ x8_2
              · rw [if_pos c13] at H
                have c13b0 : decide (0 ≤ x8_2) = true := decide_eq_true c13
                clear c13
                replace H := Option.bind_eq_some_iff.mp H
                obtain ⟨t123, A140, H⟩ := H
                replace H : (if t123 ≥ 0 then ((spec_l3Has.f k2 l2 (rdOf ByteArray.empty l1_1 x8_2)).bind fun t125 => (if t125 = true then (spec_l18Ready.l1 k2 l0 l2 (wrap64 (x8_2 + 1)) a1_0 l1_1 l1_2 a1_3 a1_4) else (some false))) else (spec_l18Ready.l1 k2 l0 l2 (wrap64 (x8_2 + 1)) a1_0 l1_1 l1_2 a1_3 a1_4)) = some r := H
                have A14 := Aside0.mk A140
                clear A140
                by_cases c15 : t123 ≥ 0
                · rw [if_pos c15] at H
                  have c15b0 : decide (0 ≤ t123) = true := decide_eq_true c15
                  clear c15
                  replace H := Option.bind_eq_some_iff.mp H
                  obtain ⟨t125, A160, H⟩ := H
                  replace H : (if t125 = true then (spec_l18Ready.l1 k2 l0 l2 (wrap64 (x8_2 + 1)) a1_0 l1_1 l1_2 a1_3 a1_4) else (some false)) = some r := H
                  have A16 := Aside0.mk A160
                  clear A160
                  by_cases c17 : t125 = true
                  · subst c17
                    have H1 : (spec_l18Ready.l1 k2 l0 l2 (wrap64 (x8_2 + 1)) a1_0 l1_1 l1_2 a1_3 a1_4) = some r := by rw [if_pos rfl] at H; exact H
                    clear H
                    have H := H1
                    clear H1
                    have H' := Aside0.mk H
                    clear H
                    have hcz18_0 : wr.cell? ⟨gb119, 0, none⟩ = some (.string a1_0) := (blk_cell BK119.out 0).trans rfl
                    have hcz18_1 : wr.cell? ⟨gb119, 1, none⟩ = some (.slice A1_1 l1_1.length c1_1) := (blk_cell BK119.out 1).trans rfl
                    have hcz18_2 : wr.cell? ⟨gb119, 2, none⟩ = some (.slice A1_2 l1_2.length c1_2) := (blk_cell BK119.out 2).trans rfl
                    have hcz18_3 : wr.cell? ⟨gb119, 3, none⟩ = some (.string a1_3) := (blk_cell BK119.out 3).trans rfl
                    have hcz18_4 : wr.cell? ⟨gb119, 4, none⟩ = some (.bool a1_4) := (blk_cell BK119.out 4).trans rfl
                    have hfz18_0 := blk_frozen BK119.out 0
                    have hfz18_1 := blk_frozen BK119.out 1
                    have hfz18_2 := blk_frozen BK119.out 2
                    have hfz18_3 := blk_frozen BK119.out 3
                    have hfz18_4 := blk_frozen BK119.out 4
                    have p122 : 0 ≤ (x8_2 : Int) := of_decide_eq_true (by first | (with_reducible assumption) | assumption)
                    have q122 : x8_2 < (l1_1.length : Int) := of_decide_eq_true (by first | (with_reducible assumption) | assumption)
                    obtain ⟨ad122, e122, hx122_0⟩ := Kd.at_string HR1_1.out x8_2 p122 q122
                    cases e122
                    replace hx122_0 := (HB.out.cell (World.block_lt_of_cell? w _ hx122_0)).trans hx122_0
                    replace p122 := eq_true p122
                    replace q122 := eq_true q122
                    go_wp2_with (first | ((with_reducible refine gate_callee (f := 52) rfl ?_); refine goesL_ (some 37) rfl rfl Try.func52 (by kernel_rfl) rfl #[.slice A0 l0.length c0, .string (rdOf ByteArray.empty l1_1 x8_2)] rfl (by (try simp only [List.map_toArray, List.map_cons, List.map_nil]); first | done | rfl | (simp only [List.length_drop, List.length_take]; rfl)) ?_; (with_reducible refine (spec_l18Find.calls k2 _ _ l0 (rdOf ByteArray.empty l1_1 x8_2) t123 _ ?side1 ?side2 A14.out).mono ?_); (case side1 => repeat (first | exact (Kd.C_below HR0.out HB.out) | (with_reducible refine Kd.C_alloc ?_ _) | (with_reducible refine Kd.C_drewN ?_ _) | (with_reducible refine Kd.C_drew ?_))); (case side2 => exact HC0.out); rintro e w' ⟨rfl, ⟨nd, rfl⟩⟩; refine ⟨_, rfl, ?_⟩; have p124 : 0 ≤ (x8_2 : Int) := of_decide_eq_true (by first | (with_reducible assumption) | assumption); have q124 : x8_2 < (l1_1.length : Int) := of_decide_eq_true (by first | (with_reducible assumption) | assumption); obtain ⟨ad124, e124, hx124_0⟩ := Kd.at_string HR1_1.out x8_2 p124 q124; obtain rfl : ad122 = ad124 := (by injection e124); replace hx124_0 := (HB.out.cell (World.block_lt_of_cell? w _ hx124_0)).trans hx124_0; replace p124 := eq_true p124; replace q124 := eq_true q124) | (go_at_call 51; (with_reducible refine (spec_l3Has.calls k2 _ _ l2 (rdOf ByteArray.empty l1_1 x8_2) true _ ?side1 ?side2 A16.out).mono ?_); (case side1 => repeat (first | exact (Kd.C_below HR2.out (by repeat (first | (with_reducible first | exact HB.out | apply below_alloc | apply pw_below_drewN | apply below_drew1 | refine below_set ?_ GE119.out) | exact HB.out))) | (with_reducible refine Kd.C_alloc ?_ _) | (with_reducible refine Kd.C_drewN ?_ _) | (with_reducible refine Kd.C_drew ?_))); (case side2 => exact HC2.out); rintro e w' ⟨rfl, ⟨nd, rfl⟩⟩))
                    go_roundg k2
                    case measure => have := HK1.out; have := HK2.out; omega
                    case rel => exact ⟨(wrap64 (x8_2 + 1)), (by first | rfl | (simp; done) | (simp [*]; done)), H', ⟨by have := HK1.out; have := HK2.out; omega⟩, ⟨by (with_reducible repeat (first | refine blk_drewN ?_ _ | refine blk_drew ?_ | refine blk_alloc ?_ _)); exact BK119.out⟩, ⟨by repeat (first | (with_reducible first | exact HB.out | apply below_alloc | apply pw_below_drewN | apply below_drew1 | refine below_set ?_ GE119.out) | exact HB.out)⟩⟩
                  · replace c17 := Bool.eq_false_iff.mpr c17
                    subst c17
                    have H1 : (some false) = some r := by rw [if_neg (show ¬ (false = true) by decide)] at H; exact H
                    clear H
                    have H := H1
                    clear H1
                    obtain rfl := Option.some.inj H
                    have hcz19_0 : wr.cell? ⟨gb119, 0, none⟩ = some (.string a1_0) := (blk_cell BK119.out 0).trans rfl
                    have hcz19_1 : wr.cell? ⟨gb119, 1, none⟩ = some (.slice A1_1 l1_1.length c1_1) := (blk_cell BK119.out 1).trans rfl
                    have hcz19_2 : wr.cell? ⟨gb119, 2, none⟩ = some (.slice A1_2 l1_2.length c1_2) := (blk_cell BK119.out 2).trans rfl
                    have hcz19_3 : wr.cell? ⟨gb119, 3, none⟩ = some (.string a1_3) := (blk_cell BK119.out 3).trans rfl
                    have hcz19_4 : wr.cell? ⟨gb119, 4, none⟩ = some (.bool a1_4) := (blk_cell BK119.out 4).trans rfl
                    have hfz19_0 := blk_frozen BK119.out 0
                    have hfz19_1 := blk_frozen BK119.out 1
                    have hfz19_2 := blk_frozen BK119.out 2
                    have hfz19_3 := blk_frozen BK119.out 3
                    have hfz19_4 := blk_frozen BK119.out 4
                    have p122 : 0 ≤ (x8_2 : Int) := of_decide_eq_true (by first | (with_reducible assumption) | assumption)
                    have q122 : x8_2 < (l1_1.length : Int) := of_decide_eq_true (by first | (with_reducible assumption) | assumption)
                    obtain ⟨ad122, e122, hx122_0⟩ := Kd.at_string HR1_1.out x8_2 p122 q122
                    cases e122
                    replace hx122_0 := (HB.out.cell (World.block_lt_of_cell? w _ hx122_0)).trans hx122_0
                    replace p122 := eq_true p122
                    replace q122 := eq_true q122
                    go_wp2_with (first | ((with_reducible refine gate_callee (f := 52) rfl ?_); refine goesL_ (some 37) rfl rfl Try.func52 (by kernel_rfl) rfl #[.slice A0 l0.length c0, .string (rdOf ByteArray.empty l1_1 x8_2)] rfl (by (try simp only [List.map_toArray, List.map_cons, List.map_nil]); first | done | rfl | (simp only [List.length_drop, List.length_take]; rfl)) ?_; (with_reducible refine (spec_l18Find.calls k2 _ _ l0 (rdOf ByteArray.empty l1_1 x8_2) t123 _ ?side1 ?side2 A14.out).mono ?_); (case side1 => repeat (first | exact (Kd.C_below HR0.out HB.out) | (with_reducible refine Kd.C_alloc ?_ _) | (with_reducible refine Kd.C_drewN ?_ _) | (with_reducible refine Kd.C_drew ?_))); (case side2 => exact HC0.out); rintro e w' ⟨rfl, ⟨nd, rfl⟩⟩; refine ⟨_, rfl, ?_⟩; have p124 : 0 ≤ (x8_2 : Int) := of_decide_eq_true (by first | (with_reducible assumption) | assumption); have q124 : x8_2 < (l1_1.length : Int) := of_decide_eq_true (by first | (with_reducible assumption) | assumption); obtain ⟨ad124, e124, hx124_0⟩ := Kd.at_string HR1_1.out x8_2 p124 q124; obtain rfl : ad122 = ad124 := (by injection e124); replace hx124_0 := (HB.out.cell (World.block_lt_of_cell? w _ hx124_0)).trans hx124_0; replace p124 := eq_true p124; replace q124 := eq_true q124) | (go_at_call 51; (with_reducible refine (spec_l3Has.calls k2 _ _ l2 (rdOf ByteArray.empty l1_1 x8_2) false _ ?side1 ?side2 A16.out).mono ?_); (case side1 => repeat (first | exact (Kd.C_below HR2.out (by repeat (first | (with_reducible first | exact HB.out | apply below_alloc | apply pw_below_drewN | apply below_drew1 | refine below_set ?_ GE119.out) | exact HB.out))) | (with_reducible refine Kd.C_alloc ?_ _) | (with_reducible refine Kd.C_drewN ?_ _) | (with_reducible refine Kd.C_drew ?_))); (case side2 => exact HC2.out); rintro e w' ⟨rfl, ⟨nd, rfl⟩⟩))
                    go_ret
                    exact ⟨by first | rfl | (simp [errW_none, errW_some] <;> rfl) | (simp [*, errW_none, errW_some] <;> rfl), by repeat (first | (with_reducible first | exact HB.out | apply below_alloc | apply pw_below_drewN | apply below_drew1 | refine below_set ?_ GE119.out) | exact HB.out)⟩
                · rw [if_neg c15] at H
                  have c15b0 : decide (0 ≤ t123) = false := decide_eq_false c15
                  clear c15
                  have H' := Aside0.mk H
                  clear H
                  have hcz20_0 : wr.cell? ⟨gb119, 0, none⟩ = some (.string a1_0) := (blk_cell BK119.out 0).trans rfl
                  have hcz20_1 : wr.cell? ⟨gb119, 1, none⟩ = some (.slice A1_1 l1_1.length c1_1) := (blk_cell BK119.out 1).trans rfl
                  have hcz20_2 : wr.cell? ⟨gb119, 2, none⟩ = some (.slice A1_2 l1_2.length c1_2) := (blk_cell BK119.out 2).trans rfl
                  have hcz20_3 : wr.cell? ⟨gb119, 3, none⟩ = some (.string a1_3) := (blk_cell BK119.out 3).trans rfl
                  have hcz20_4 : wr.cell? ⟨gb119, 4, none⟩ = some (.bool a1_4) := (blk_cell BK119.out 4).trans rfl
                  have hfz20_0 := blk_frozen BK119.out 0
                  have hfz20_1 := blk_frozen BK119.out 1
                  have hfz20_2 := blk_frozen BK119.out 2
                  have hfz20_3 := blk_frozen BK119.out 3
                  have hfz20_4 := blk_frozen BK119.out 4
                  have p122 : 0 ≤ (x8_2 : Int) := of_decide_eq_true (by first | (with_reducible assumption) | assumption)
                  have q122 : x8_2 < (l1_1.length : Int) := of_decide_eq_true (by first | (with_reducible assumption) | assumption)
                  obtain ⟨ad122, e122, hx122_0⟩ := Kd.at_string HR1_1.out x8_2 p122 q122
                  cases e122
                  replace hx122_0 := (HB.out.cell (World.block_lt_of_cell? w _ hx122_0)).trans hx122_0
                  replace p122 := eq_true p122
                  replace q122 := eq_true q122
                  go_wp2_with (first | ((with_reducible refine gate_callee (f := 52) rfl ?_); refine goesL_ (some 37) rfl rfl Try.func52 (by kernel_rfl) rfl #[.slice A0 l0.length c0, .string (rdOf ByteArray.empty l1_1 x8_2)] rfl (by (try simp only [List.map_toArray, List.map_cons, List.map_nil]); first | done | rfl | (simp only [List.length_drop, List.length_take]; rfl)) ?_; (with_reducible refine (spec_l18Find.calls k2 _ _ l0 (rdOf ByteArray.empty l1_1 x8_2) t123 _ ?side1 ?side2 A14.out).mono ?_); (case side1 => repeat (first | exact (Kd.C_below HR0.out HB.out) | (with_reducible refine Kd.C_alloc ?_ _) | (with_reducible refine Kd.C_drewN ?_ _) | (with_reducible refine Kd.C_drew ?_))); (case side2 => exact HC0.out); rintro e w' ⟨rfl, ⟨nd, rfl⟩⟩; refine ⟨_, rfl, ?_⟩))
                  go_roundg k2
                  case measure => have := HK1.out; have := HK2.out; omega
                  case rel => exact ⟨(wrap64 (x8_2 + 1)), (by first | rfl | (simp; done) | (simp [*]; done)), H', ⟨by have := HK1.out; have := HK2.out; omega⟩, ⟨by (with_reducible repeat (first | refine blk_drewN ?_ _ | refine blk_drew ?_ | refine blk_alloc ?_ _)); exact BK119.out⟩, ⟨by repeat (first | (with_reducible first | exact HB.out | apply below_alloc | apply pw_below_drewN | apply below_drew1 | refine below_set ?_ GE119.out) | exact HB.out)⟩⟩
              · rw [if_neg c13] at H
                exact absurd H (by simp)
            · rw [if_neg c12] at H
              have c12b0 : decide (x8_2 < (l1_1.length : Int)) = false := decide_eq_false c12
              clear c12
              obtain rfl := Option.some.inj H
              have hcz21_0 : wr.cell? ⟨gb119, 0, none⟩ = some (.string a1_0) := (blk_cell BK119.out 0).trans rfl
              have hcz21_1 : wr.cell? ⟨gb119, 1, none⟩ = some (.slice A1_1 l1_1.length c1_1) := (blk_cell BK119.out 1).trans rfl
              have hcz21_2 : wr.cell? ⟨gb119, 2, none⟩ = some (.slice A1_2 l1_2.length c1_2) := (blk_cell BK119.out 2).trans rfl
              have hcz21_3 : wr.cell? ⟨gb119, 3, none⟩ = some (.string a1_3) := (blk_cell BK119.out 3).trans rfl
              have hcz21_4 : wr.cell? ⟨gb119, 4, none⟩ = some (.bool a1_4) := (blk_cell BK119.out 4).trans rfl
              have hfz21_0 := blk_frozen BK119.out 0
              have hfz21_1 := blk_frozen BK119.out 1
              have hfz21_2 := blk_frozen BK119.out 2
              have hfz21_3 := blk_frozen BK119.out 3
              have hfz21_4 := blk_frozen BK119.out 4
              go_wp2
              go_ret
              exact ⟨by first | rfl | (simp [errW_none, errW_some] <;> rfl) | (simp [*, errW_none, errW_some] <;> rfl), by repeat (first | (with_reducible first | exact HB.out | apply below_alloc | apply pw_below_drewN | apply below_drew1 | refine below_set ?_ GE119.out) | exact HB.out)⟩
end Go.Proofs.Ytnjmhlhlmokjnaa.G
namespace Go.Proofs.Ytnjmhlhlmokjnaa.G
open Go.RowKit Go.Proofs.YtnjmhlhlmokjnaaW.PrintWords Go.Proofs.YtnjmhlhlmokjnaaW.PrintLast Go.Proofs.YtnjmhlhlmokjnaaW.PrintMore
attribute [local go_sem] max2_int min2_int max_two min_two max_three min_three max_four min_four
set_option linter.unusedVariables false
set_option linter.unusedSimpArgs false
mutual
def spec_StartOrder.l0 : Nat → List (S32) → List ByteArray → Int → Option (List ByteArray × Bool)
  | 0, _, _, _ => none
  | k + 1, x0, x4, x5 => if x5 < (x0.length : Int) then (spec_StartOrder.l1 k x0 x4 x5 0) else (some (x4, ((x4.length : Int) == (x0.length : Int))))
def spec_StartOrder.l1 : Nat → List (S32) → List ByteArray → Int → Int → Option (List ByteArray × Bool)
  | 0, _, _, _, _ => none
  | k + 1, x0, x4, x5, x6 => if x6 < (x0.length : Int) then (if 0 ≤ x6 then ((spec_l3Has.f k x4 ((rd_T32 x0 x6).f0)).bind fun t131 => (if t131 = true then (spec_StartOrder.l1 k x0 x4 x5 (wrap64 (x6 + 1))) else ((spec_l18Ready.f k x0 ((rd_T32 x0 x6).f0) ((rd_T32 x0 x6).f1) ((rd_T32 x0 x6).f2) ((rd_T32 x0 x6).f3) ((rd_T32 x0 x6).f4) x4).bind fun t133 => (if t133 = true then (if x4.length < 8796093022208 then (spec_StartOrder.l0 k x0 (x4 ++ [(rd_T32 x0 x6).f0]) (wrap64 (x5 + 1))) else (none)) else (spec_StartOrder.l1 k x0 x4 x5 (wrap64 (x6 + 1))))))) else (none)) else (spec_StartOrder.l0 k x0 x4 (wrap64 (x5 + 1)))
end
def spec_StartOrder.f (k : Nat) (l0 : List (S32)) : Option (List ByteArray × Bool) := (some (([] : List ByteArray) : List ByteArray)).bind fun y126 => ((spec_UnitsOk.f l0).bind fun t129 => (if t129 = true then (spec_StartOrder.l0 k l0 y126 0) else (some (y126, false))))
set_option maxHeartbeats 8000000 in
set_option maxRecDepth 100000 in
theorem spec_StartOrder.calls (k : Nat) (A0 : Option Addr) (c0 : Nat) (l0 : List (S32)) (r1 : List ByteArray) (r2 : Bool) (w : World) (hr0 : Kd.C k32 w A0 l0.length l0) (hc0 : l0.length ≤ c0) (h : spec_StartOrder.f k l0 = some (r1, r2)) :
    Calls Try.prog 27 #[.slice A0 l0.length c0] w fun e w' => ∃ v0_ : Value, e = .returned (.tuple #[v0_, .bool r2]) ∧ Kd.R Kd.string 9 w' w.heap.size (fun _ => True) v0_ r1 ∧ Below w.heap.size w w' := by
  have hu32 := Try.underlying32
  have HR0 := Aside0.mk hr0
  have HC0 := Aside0.mk hc0
  clear hr0 hc0
  have HB := Aside0.mk (Below.refl w.heap.size w)
  have H : ((some (([] : List ByteArray) : List ByteArray)).bind fun y126 => ((spec_UnitsOk.f l0).bind fun t129 => (if t129 = true then (spec_StartOrder.l0 k l0 y126 0) else (some (y126, false))))) = some (r1, r2) := h
  clear h
  obtain ⟨y126, hy126⟩ : ∃ y_ : List ByteArray, y_ = (([] : List ByteArray)) := ⟨_, rfl⟩
  replace H : ((spec_UnitsOk.f l0).bind fun t129 => (if t129 = true then (spec_StartOrder.l0 k l0 y126 0) else (some (y126, false)))) = some (r1, r2) := by first | (rw [hy126]; with_reducible exact H) | (have H2_ := (Option.bind_some _ _).symm.trans H; rw [hy126]; with_reducible exact H2_) | (have H2_ := (Option.bind_some _ _).symm.trans H; with_reducible exact H2_) | with_reducible exact H | (rw [hy126]; exact H) | exact H
  have Ny126 := Aside0.mk hy126
  clear hy126
  replace H := Option.bind_eq_some_iff.mp H
  obtain ⟨t129, A20, H⟩ := H
  replace H : (if t129 = true then (spec_StartOrder.l0 k l0 y126 0) else (some (y126, false))) = some (r1, r2) := H
  have A2 := Aside0.mk A20
  clear A20
  by_cases c3 : t129 = true
  · subst c3
    have H1 : (spec_StartOrder.l0 k l0 y126 0) = some (r1, r2) := by rw [if_pos rfl] at H; exact H
    clear H
    have H := H1
    clear H1
    have H' := Aside0.mk H
    clear H
    go_enter Try.func27, Try.ntmps27
    go_wp2_with (first | ((with_reducible refine gate_dst (N := 7) rfl ?_); refine Kd.R_lit Kd.string _ 9 ?hg (N := 7) ?hd (xs := ([] : List ByteArray)) (inner := []) (ok := fun _ => True) (okp := fun _ => True) ?hr ?hp (fun _ hk => hk) trivial (Below.refl _ _) (Nat.le_refl _) (by simp) ?_; (case hd => rfl); (case hg => rfl); (case hr => first | (go_simp; done) | (go_simp; rfl)); (case hp => exact (Reps.none _ _)); intro v127 w4 ho5 hb hg_ hnew_; clear hg_ hnew_; (first | rw [← Ny126.out] at ho5 | (simp only [Int.reduceToNat] at ho5; rw [← Ny126.out] at ho5)); have n0_ := Aside0.mk (Kd.R_lower ho5 (below_size (by repeat (first | (with_reducible first | exact HB.out | apply below_alloc | apply pw_below_drewN | apply below_drew1) | exact HB.out)))); have n1_ := Aside0.mk (below_step (by repeat (first | (with_reducible first | exact HB.out | apply below_alloc | apply pw_below_drewN | apply below_drew1) | exact HB.out)) hb); clear HB; have HO128 := n0_; have HB := n1_; clear n0_ n1_; clear hb ho5) | ((with_reducible refine gate_callee (f := 13) rfl ?_); refine goesL_ (some 9) rfl rfl Try.func13 (by kernel_rfl) rfl #[.slice A0 l0.length c0] rfl (by (try simp only [List.map_toArray, List.map_cons, List.map_nil]); first | done | rfl | (simp only [List.length_drop, List.length_take]; rfl)) ?_; (with_reducible refine (spec_UnitsOk.calls _ _ l0 true _ ?side1 ?side2 A2.out).mono ?_); (case side1 => repeat (first | exact (Kd.C_below HR0.out HB.out) | (with_reducible refine Kd.C_alloc ?_ _) | (with_reducible refine Kd.C_drewN ?_ _) | (with_reducible refine Kd.C_drew ?_))); (case side2 => exact HC0.out); rintro e w6 ⟨rfl, hb⟩; refine ⟨_, rfl, ?_⟩; have n0_ := Aside0.mk (Kd.R_below (by (with_reducible repeat (first | apply Kd.R_alloc | apply Kd.R_drewN | apply Kd.R_drew)); exact HO128.out) hb); have n1_ := Aside0.mk (below_step (by repeat (first | (with_reducible first | exact HB.out | apply below_alloc | apply pw_below_drewN | apply below_drew1) | exact HB.out)) hb); clear HO128; clear HB; have HO128 := n0_; have HB := n1_; clear n0_ n1_; (try clear hb); (try clear hb2); (try clear hk); (try clear hi)))
    go_loopg [4, 5] k (fun kq v4 v5 w' => ∃ (x4_1 : List ByteArray) (x5_1 : Int), v5 = .int .i64 x5_1 ∧ Aside0 (spec_StartOrder.l0 kq l0 x4_1 x5_1 = some (r1, r2)) ∧ Aside0 (kq ≤ k) ∧ Aside0 (Kd.R Kd.string 9 w' w.heap.size (fun _ => True) v4 x4_1) ∧ Aside0 (Below w.heap.size w w'))
    case atStart => exact ⟨(y126), (0), (by first | rfl | (simp; done) | (simp [*]; done)), H', ⟨Nat.le_refl _⟩, ⟨by (with_reducible repeat (first | apply Kd.R_alloc | apply Kd.R_drewN | apply Kd.R_drew)); exact HO128.out⟩, ⟨by repeat (first | (with_reducible first | exact HB.out | apply below_alloc | apply pw_below_drewN | apply below_drew1) | exact HB.out)⟩⟩
    case round =>
      clear H'
      try clear c1
      try clear c2
      try clear p2
      try clear c3
      obtain ⟨x4_1, x5_1, rfl, HA, HK1, HO_4, HB⟩ := hrel
      cases gk with
      | zero => exact absurd HA.out (by simp [spec_StartOrder.l0])
      | succ k1 =>
        have H := HA.out
        clear HA
        simp only [spec_StartOrder.l0] at H
        by_cases c7 : x5_1 < (l0.length : Int)
        · rw [if_pos c7] at H
          have c7b0 : decide (x5_1 < (l0.length : Int)) = true := decide_eq_true c7
          clear c7
          have H' := Aside0.mk H
          clear H
          go_wp2
          go_loopg [4, 6] k1 (fun kq v4 v6 w' => ∃ (x4_2 : List ByteArray) (x6_2 : Int), v6 = .int .i64 x6_2 ∧ Aside0 (spec_StartOrder.l1 kq l0 x4_2 x5_1 x6_2 = some (r1, r2)) ∧ Aside0 (kq ≤ k1) ∧ Aside0 (Kd.R Kd.string 9 w' w.heap.size (fun _ => True) v4 x4_2) ∧ Aside0 (Below w.heap.size w w'))
          case atStart => exact ⟨(x4_1), (0), (by first | rfl | (simp; done) | (simp [*]; done)), H', ⟨Nat.le_refl _⟩, ⟨by (with_reducible repeat (first | apply Kd.R_alloc | apply Kd.R_drewN | apply Kd.R_drew)); exact HO_4.out⟩, ⟨by repeat (first | (with_reducible first | exact HB.out | apply below_alloc | apply pw_below_drewN | apply below_drew1) | exact HB.out)⟩⟩
          case round =>
            clear H'
            try clear c1
            try clear c2
            try clear p2
            try clear c3
            try clear c7
            try clear c7b0
            try clear p2
            obtain ⟨x4_2, x6_2, rfl, HA, HK2, HO_4, HB⟩ := hrel
            cases gk with
            | zero => exact absurd HA.out (by simp [spec_StartOrder.l1])
            | succ k2 =>
              have H := HA.out
              clear HA
              simp only [spec_StartOrder.l1] at H
              by_cases c8 : x6_2 < (l0.length : Int)
              · rw [if_pos c8] at H
                have c8b0 : decide (x6_2 < (l0.length : Int)) = true := decide_eq_true c8
                clear c8
                by_cases c9 : 0 ≤ x6_2
                · rw [if_pos c9] at H
                  have c9b0 : decide (0 ≤ x6_2) = true := decide_eq_true c9
                  clear c9
                  replace H := Option.bind_eq_some_iff.mp H
                  obtain ⟨t131, A100, H⟩ := H
                  replace H : (if t131 = true then (spec_StartOrder.l1 k2 l0 x4_2 x5_1 (wrap64 (x6_2 + 1))) else ((spec_l18Ready.f k2 l0 ((rd_T32 l0 x6_2).f0) ((rd_T32 l0 x6_2).f1) ((rd_T32 l0 x6_2).f2) ((rd_T32 l0 x6_2).f3) ((rd_T32 l0 x6_2).f4) x4_2).bind fun t133 => (if t133 = true then (if x4_2.length < 8796093022208 then (spec_StartOrder.l0 k2 l0 (x4_2 ++ [(rd_T32 l0 x6_2).f0]) (wrap64 (x5_1 + 1))) else (none)) else (spec_StartOrder.l1 k2 l0 x4_2 x5_1 (wrap64 (x6_2 + 1)))))) = some (r1, r2) := H
                  have A10 := Aside0.mk A100
                  clear A100
                  by_cases c11 : t131 = true
                  · subst c11
                    have H1 : (spec_StartOrder.l1 k2 l0 x4_2 x5_1 (wrap64 (x6_2 + 1))) = some (r1, r2) := by rw [if_pos rfl] at H; exact H
                    clear H
                    have H := H1
                    clear H1
                    have H' := Aside0.mk H
                    clear H
                    have p130 : 0 ≤ (x6_2 : Int) := of_decide_eq_true (by first | (with_reducible assumption) | assumption)
                    have q130 : x6_2 < (l0.length : Int) := of_decide_eq_true (by first | (with_reducible assumption) | assumption)
                    obtain ⟨ad130, A130_1, c130_1, A130_2, c130_2, e130, hx130_0, hx130_1, hx130_2, hx130_3, hx130_4, hl130_1, hi130_1, hl130_2, hi130_2⟩ := at_T32 HR0.out x6_2 p130 q130
                    cases e130
                    replace hx130_0 := (HB.out.cell (World.block_lt_of_cell? w _ hx130_0)).trans hx130_0
                    replace hx130_1 := (HB.out.cell (World.block_lt_of_cell? w _ hx130_1)).trans hx130_1
                    replace hx130_2 := (HB.out.cell (World.block_lt_of_cell? w _ hx130_2)).trans hx130_2
                    replace hx130_3 := (HB.out.cell (World.block_lt_of_cell? w _ hx130_3)).trans hx130_3
                    replace hx130_4 := (HB.out.cell (World.block_lt_of_cell? w _ hx130_4)).trans hx130_4
                    have HR130_1 := Aside0.mk hi130_1
                    have HC130_1 := Aside0.mk hl130_1
                    clear hi130_1 hl130_1
                    have HR130_2 := Aside0.mk hi130_2
                    have HC130_2 := Aside0.mk hl130_2
                    clear hi130_2 hl130_2
                    replace p130 := eq_true p130
                    replace q130 := eq_true q130
                    obtain ⟨Ao12, co12, eo12⟩ := Kd.R_slice HO_4.out
                    subst eo12
                    go_wp2_with (first | ((with_reducible refine gate_callee (f := 51) rfl ?_); refine goesL_ (some 30) rfl rfl Try.func51 (by kernel_rfl) rfl #[.slice Ao12 x4_2.length co12, .string ((rd_T32 l0 x6_2).f0)] rfl (by (try simp only [List.map_toArray, List.map_cons, List.map_nil]); first | done | rfl | (simp only [List.length_drop, List.length_take]; rfl)) ?_; (with_reducible refine (spec_l3Has.calls k2 _ _ x4_2 ((rd_T32 l0 x6_2).f0) true _ ?side1 ?side2 A10.out).mono ?_); (case side1 => repeat (first | exact (Kd.R_reads' HO_4.out).2.2 | (with_reducible refine Kd.C_alloc ?_ _) | (with_reducible refine Kd.C_drewN ?_ _) | (with_reducible refine Kd.C_drew ?_))); (case side2 => exact (Kd.R_reads' HO_4.out).2.1); rintro e w' ⟨rfl, ⟨nd, rfl⟩⟩; refine ⟨_, rfl, ?_⟩))
                    go_roundg k2
                    case measure => have := HK1.out; have := HK2.out; omega
                    case rel => exact ⟨(x4_2), (wrap64 (x6_2 + 1)), (by first | rfl | (simp; done) | (simp [*]; done)), H', ⟨by have := HK1.out; have := HK2.out; omega⟩, ⟨by (with_reducible repeat (first | apply Kd.R_alloc | apply Kd.R_drewN | apply Kd.R_drew)); exact HO_4.out⟩, ⟨by repeat (first | (with_reducible first | exact HB.out | apply below_alloc | apply pw_below_drewN | apply below_drew1) | exact HB.out)⟩⟩
                  · replace c11 := Bool.eq_false_iff.mpr c11
                    subst c11
                    have H1 : ((spec_l18Ready.f k2 l0 ((rd_T32 l0 x6_2).f0) ((rd_T32 l0 x6_2).f1) ((rd_T32 l0 x6_2).f2) ((rd_T32 l0 x6_2).f3) ((rd_T32 l0 x6_2).f4) x4_2).bind fun t133 => (if t133 = true then (if x4_2.length < 8796093022208 then (spec_StartOrder.l0 k2 l0 (x4_2 ++ [(rd_T32 l0 x6_2).f0]) (wrap64 (x5_1 + 1))) else (none)) else (spec_StartOrder.l1 k2 l0 x4_2 x5_1 (wrap64 (x6_2 + 1))))) = some (r1, r2) := by rw [if_neg (show ¬ (false = true) by decide)] at H; exact H
                    clear H
                    have H := H1
                    clear H1
                    replace H := Option.bind_eq_some_iff.mp H
                    obtain ⟨t133, A130, H⟩ := H
                    replace H : (if t133 = true then (if x4_2.length < 8796093022208 then (spec_StartOrder.l0 k2 l0 (x4_2 ++ [(rd_T32 l0 x6_2).f0]) (wrap64 (x5_1 + 1))) else (none)) else (spec_StartOrder.l1 k2 l0 x4_2 x5_1 (wrap64 (x6_2 + 1)))) = some (r1, r2) := H
                    have A13 := Aside0.mk A130
                    clear A130
                    by_cases c14 : t133 = true
                    · subst c14
                      have H1 : (if x4_2.length < 8796093022208 then (spec_StartOrder.l0 k2 l0 (x4_2 ++ [(rd_T32 l0 x6_2).f0]) (wrap64 (x5_1 + 1))) else (none)) = some (r1, r2) := by rw [if_pos rfl] at H; exact H
                      clear H
                      have H := H1
                      clear H1
                      by_cases c15 : x4_2.length < 8796093022208
                      · rw [if_pos c15] at H
                        have LMc15 := Aside0.mk c15
                        clear c15
                        obtain ⟨y135, hy135⟩ : ∃ y_ : List ByteArray, y_ = (x4_2 ++ [(rd_T32 l0 x6_2).f0]) := ⟨_, rfl⟩
                        replace H : (spec_StartOrder.l0 k2 l0 y135 (wrap64 (x5_1 + 1))) = some (r1, r2) := by first | (rw [hy135]; with_reducible exact H) | (have H2_ := (Option.bind_some _ _).symm.trans H; rw [hy135]; with_reducible exact H2_) | (have H2_ := (Option.bind_some _ _).symm.trans H; with_reducible exact H2_) | with_reducible exact H | (rw [hy135]; exact H) | exact H
                        have Ny135 := Aside0.mk hy135
                        clear hy135
                        have H' := Aside0.mk H
                        clear H
                        have p130 : 0 ≤ (x6_2 : Int) := of_decide_eq_true (by first | (with_reducible assumption) | assumption)
                        have q130 : x6_2 < (l0.length : Int) := of_decide_eq_true (by first | (with_reducible assumption) | assumption)
                        obtain ⟨ad130, A130_1, c130_1, A130_2, c130_2, e130, hx130_0, hx130_1, hx130_2, hx130_3, hx130_4, hl130_1, hi130_1, hl130_2, hi130_2⟩ := at_T32 HR0.out x6_2 p130 q130
                        cases e130
                        replace hx130_0 := (HB.out.cell (World.block_lt_of_cell? w _ hx130_0)).trans hx130_0
                        replace hx130_1 := (HB.out.cell (World.block_lt_of_cell? w _ hx130_1)).trans hx130_1
                        replace hx130_2 := (HB.out.cell (World.block_lt_of_cell? w _ hx130_2)).trans hx130_2
                        replace hx130_3 := (HB.out.cell (World.block_lt_of_cell? w _ hx130_3)).trans hx130_3
                        replace hx130_4 := (HB.out.cell (World.block_lt_of_cell? w _ hx130_4)).trans hx130_4
                        have HR130_1 := Aside0.mk hi130_1
                        have HC130_1 := Aside0.mk hl130_1
                        clear hi130_1 hl130_1
                        have HR130_2 := Aside0.mk hi130_2
                        have HC130_2 := Aside0.mk hl130_2
                        clear hi130_2 hl130_2
                        replace p130 := eq_true p130
                        replace q130 := eq_true q130
                        obtain ⟨Ao16, co16, eo16⟩ := Kd.R_slice HO_4.out
                        subst eo16
                        go_wp2_with (first | ((with_reducible refine gate_callee (f := 51) rfl ?_); refine goesL_ (some 30) rfl rfl Try.func51 (by kernel_rfl) rfl #[.slice Ao16 x4_2.length co16, .string ((rd_T32 l0 x6_2).f0)] rfl (by (try simp only [List.map_toArray, List.map_cons, List.map_nil]); first | done | rfl | (simp only [List.length_drop, List.length_take]; rfl)) ?_; (with_reducible refine (spec_l3Has.calls k2 _ _ x4_2 ((rd_T32 l0 x6_2).f0) false _ ?side1 ?side2 A10.out).mono ?_); (case side1 => repeat (first | exact (Kd.R_reads' HO_4.out).2.2 | (with_reducible refine Kd.C_alloc ?_ _) | (with_reducible refine Kd.C_drewN ?_ _) | (with_reducible refine Kd.C_drew ?_))); (case side2 => exact (Kd.R_reads' HO_4.out).2.1); rintro e w' ⟨rfl, ⟨nd, rfl⟩⟩; refine ⟨_, rfl, ?_⟩; have p132 : 0 ≤ (x6_2 : Int) := of_decide_eq_true (by first | (with_reducible assumption) | assumption); have q132 : x6_2 < (l0.length : Int) := of_decide_eq_true (by first | (with_reducible assumption) | assumption); obtain ⟨ad132, A132_1, c132_1, A132_2, c132_2, e132, hx132_0, hx132_1, hx132_2, hx132_3, hx132_4, hl132_1, hi132_1, hl132_2, hi132_2⟩ := at_T32 HR0.out x6_2 p132 q132; obtain rfl : ad130 = ad132 := (by injection e132); replace hx132_0 := (HB.out.cell (World.block_lt_of_cell? w _ hx132_0)).trans hx132_0; replace hx132_1 := (HB.out.cell (World.block_lt_of_cell? w _ hx132_1)).trans hx132_1; replace hx132_2 := (HB.out.cell (World.block_lt_of_cell? w _ hx132_2)).trans hx132_2; replace hx132_3 := (HB.out.cell (World.block_lt_of_cell? w _ hx132_3)).trans hx132_3; replace hx132_4 := (HB.out.cell (World.block_lt_of_cell? w _ hx132_4)).trans hx132_4; have HR132_1 := Aside0.mk hi132_1; have HC132_1 := Aside0.mk hl132_1; clear hi132_1 hl132_1; have HR132_2 := Aside0.mk hi132_2; have HC132_2 := Aside0.mk hl132_2; clear hi132_2 hl132_2; replace p132 := eq_true p132; replace q132 := eq_true q132; have ea_ := Option.some.inj (hx130_1.symm.trans hx132_1); injection ea_ with ea_ en_ ec_; subst ea_; subst ec_; clear en_; have ea_ := Option.some.inj (hx130_2.symm.trans hx132_2); injection ea_ with ea_ en_ ec_; subst ea_; subst ec_; clear en_) | (go_at_call 58; (with_reducible refine (spec_l18Ready.calls k2 _ _ l0 ((rd_T32 l0 x6_2).f0) _ _ ((rd_T32 l0 x6_2).f1) _ _ ((rd_T32 l0 x6_2).f2) ((rd_T32 l0 x6_2).f3) ((rd_T32 l0 x6_2).f4) _ _ x4_2 true _ ?side1 ?side2 ?side3 ?side4 ?side5 ?side6 ?side7 ?side8 A13.out).mono ?_); (case side1 => repeat (first | exact (Kd.C_below HR0.out (by repeat (first | (with_reducible first | exact HB.out | apply below_alloc | apply pw_below_drewN | apply below_drew1) | exact HB.out))) | (with_reducible refine Kd.C_alloc ?_ _) | (with_reducible refine Kd.C_drewN ?_ _) | (with_reducible refine Kd.C_drew ?_))); (case side2 => exact HC0.out); (case side3 => repeat (first | exact (Kd.C_below HR132_1.out (by repeat (first | (with_reducible first | exact HB.out | apply below_alloc | apply pw_below_drewN | apply below_drew1) | exact HB.out))) | (with_reducible refine Kd.C_alloc ?_ _) | (with_reducible refine Kd.C_drewN ?_ _) | (with_reducible refine Kd.C_drew ?_))); (case side4 => exact HC132_1.out); (case side5 => repeat (first | exact (Kd.C_below HR132_2.out (by repeat (first | (with_reducible first | exact HB.out | apply below_alloc | apply pw_below_drewN | apply below_drew1) | exact HB.out))) | (with_reducible refine Kd.C_alloc ?_ _) | (with_reducible refine Kd.C_drewN ?_ _) | (with_reducible refine Kd.C_drew ?_))); (case side6 => exact HC132_2.out); (case side7 => repeat (first | exact (Kd.R_reads' HO_4.out).2.2 | (with_reducible refine Kd.C_alloc ?_ _) | (with_reducible refine Kd.C_drewN ?_ _) | (with_reducible refine Kd.C_drew ?_))); (case side8 => exact (Kd.R_reads' HO_4.out).2.1); rintro e w17 ⟨rfl, hb⟩; have n0_ := Aside0.mk (Kd.R_below (by (with_reducible repeat (first | apply Kd.R_alloc | apply Kd.R_drewN | apply Kd.R_drew)); exact HO_4.out) hb); have n1_ := Aside0.mk (below_step (by repeat (first | (with_reducible first | exact HB.out | apply below_alloc | apply pw_below_drewN | apply below_drew1) | exact HB.out)) hb); clear HO_4; clear HB; have HO_4 := n0_; have HB := n1_; clear n0_ n1_; (try clear hb); (try clear hb2); (try clear hk); (try clear hi); have p134 : 0 ≤ (x6_2 : Int) := of_decide_eq_true (by first | (with_reducible assumption) | assumption); have q134 : x6_2 < (l0.length : Int) := of_decide_eq_true (by first | (with_reducible assumption) | assumption); obtain ⟨ad134, A134_1, c134_1, A134_2, c134_2, e134, hx134_0, hx134_1, hx134_2, hx134_3, hx134_4, hl134_1, hi134_1, hl134_2, hi134_2⟩ := at_T32 HR0.out x6_2 p134 q134; obtain rfl : ad130 = ad134 := (by injection e134); replace hx134_0 := (HB.out.cell (World.block_lt_of_cell? w _ hx134_0)).trans hx134_0; replace hx134_1 := (HB.out.cell (World.block_lt_of_cell? w _ hx134_1)).trans hx134_1; replace hx134_2 := (HB.out.cell (World.block_lt_of_cell? w _ hx134_2)).trans hx134_2; replace hx134_3 := (HB.out.cell (World.block_lt_of_cell? w _ hx134_3)).trans hx134_3; replace hx134_4 := (HB.out.cell (World.block_lt_of_cell? w _ hx134_4)).trans hx134_4; have HR134_1 := Aside0.mk hi134_1; have HC134_1 := Aside0.mk hl134_1; clear hi134_1 hl134_1; have HR134_2 := Aside0.mk hi134_2; have HC134_2 := Aside0.mk hl134_2; clear hi134_2 hl134_2; replace p134 := eq_true p134; replace q134 := eq_true q134) | ((with_reducible refine gate_builtin (b := .append) (xs := #[.tmp 41, .tmp 47]) rfl ?_); at_builtin; refine Kd.R_append Kd.string (w0 := w) w.heap.size rfl (.tmp 41) (.tmp 47) 25 9 (.string ⟨#[]⟩) 16 rfl Try.underlying25 info9 rfl (by decide) (by omega) (.slice Ao16 x4_2.length co16) x4_2 ((rd_T32 l0 x6_2).f0) [.string ((rd_T32 l0 x6_2).f0)] (fun _ => True) (fun _ => False) rfl rfl ?aP (fun _ hk => hk.elim) ?aF ?aO ?aB ?aS ?aL ?_; (case aP => exact rfl); (case aB => exact (by repeat (first | (with_reducible first | exact HB.out | apply below_alloc | apply pw_below_drewN | apply below_drew1) | exact HB.out))); (case aF => exact (fun _ _ => trivial)); (case aO => exact (by (with_reducible repeat (first | apply Kd.R_alloc | apply Kd.R_drewN | apply Kd.R_drew)); exact HO_4.out)); (case aS => exact (below_size (by repeat (first | (with_reducible first | exact HB.out | apply below_alloc | apply pw_below_drewN | apply below_drew1) | exact HB.out)))); (case aL => have := LMc15.out; omega); intro v136 w18 ho hb hg hat; rw [← Ny135.out] at ho; have n0_ := Aside0.mk (hb); have n1_ := Aside0.mk (ho); clear HB; clear HO_4; have HB := n0_; have HO137 := n1_; clear n0_ n1_; clear ho hb hg hat))
                        go_roundg k2
                        case measure => have := HK1.out; have := HK2.out; omega
                        case rel => exact ⟨(y135), (wrap64 (x5_1 + 1)), (by first | rfl | (simp; done) | (simp [*]; done)), H', ⟨by have := HK1.out; have := HK2.out; omega⟩, ⟨by (with_reducible repeat (first | apply Kd.R_alloc | apply Kd.R_drewN | apply Kd.R_drew)); exact HO137.out⟩, ⟨by repeat (first | (with_reducible first | exact HB.out | apply below_alloc | apply pw_below_drewN | apply below_drew1) | exact HB.out)⟩⟩
                      · rw [if_neg c15] at H
                        exact absurd H (by simp)
                    · replace c14 := Bool.eq_false_iff.mpr c14
                      subst c14
                      have H1 : (spec_StartOrder.l1 k2 l0 x4_2 x5_1 (wrap64 (x6_2 + 1))) = some (r1, r2) := by rw [if_neg (show ¬ (false = true) by decide)] at H; exact H
                      clear H
                      have H := H1
                      clear H1
                      have H' := Aside0.mk H
                      clear H
                      have p130 : 0 ≤ (x6_2 : Int) := of_decide_eq_true (by first | (with_reducible assumption) | assumption)
                      have q130 : x6_2 < (l0.length : Int) := of_decide_eq_true (by first | (with_reducible assumption) | assumption)
                      obtain ⟨ad130, A130_1, c130_1, A130_2, c130_2, e130, hx130_0, hx130_1, hx130_2, hx130_3, hx130_4, hl130_1, hi130_1, hl130_2, hi130_2⟩ := at_T32 HR0.out x6_2 p130 q130
                      cases e130
                      replace hx130_0 := (HB.out.cell (World.block_lt_of_cell? w _ hx130_0)).trans hx130_0
                      replace hx130_1 := (HB.out.cell (World.block_lt_of_cell? w _ hx130_1)).trans hx130_1
                      replace hx130_2 := (HB.out.cell (World.block_lt_of_cell? w _ hx130_2)).trans hx130_2
                      replace hx130_3 := (HB.out.cell (World.block_lt_of_cell? w _ hx130_3)).trans hx130_3
                      replace hx130_4 := (HB.out.cell (World.block_lt_of_cell? w _ hx130_4)).trans hx130_4
                      have HR130_1 := Aside0.mk hi130_1
                      have HC130_1 := Aside0.mk hl130_1
                      clear hi130_1 hl130_1
                      have HR130_2 := Aside0.mk hi130_2
                      have HC130_2 := Aside0.mk hl130_2
                      clear hi130_2 hl130_2
                      replace p130 := eq_true p130
                      replace q130 := eq_true q130
                      obtain ⟨Ao19, co19, eo19⟩ := Kd.R_slice HO_4.out
                      subst eo19
                      go_wp2_with (first | ((with_reducible refine gate_callee (f := 51) rfl ?_); refine goesL_ (some 30) rfl rfl Try.func51 (by kernel_rfl) rfl #[.slice Ao19 x4_2.length co19, .string ((rd_T32 l0 x6_2).f0)] rfl (by (try simp only [List.map_toArray, List.map_cons, List.map_nil]); first | done | rfl | (simp only [List.length_drop, List.length_take]; rfl)) ?_; (with_reducible refine (spec_l3Has.calls k2 _ _ x4_2 ((rd_T32 l0 x6_2).f0) false _ ?side1 ?side2 A10.out).mono ?_); (case side1 => repeat (first | exact (Kd.R_reads' HO_4.out).2.2 | (with_reducible refine Kd.C_alloc ?_ _) | (with_reducible refine Kd.C_drewN ?_ _) | (with_reducible refine Kd.C_drew ?_))); (case side2 => exact (Kd.R_reads' HO_4.out).2.1); rintro e w' ⟨rfl, ⟨nd, rfl⟩⟩; refine ⟨_, rfl, ?_⟩; have p132 : 0 ≤ (x6_2 : Int) := of_decide_eq_true (by first | (with_reducible assumption) | assumption); have q132 : x6_2 < (l0.length : Int) := of_decide_eq_true (by first | (with_reducible assumption) | assumption); obtain ⟨ad132, A132_1, c132_1, A132_2, c132_2, e132, hx132_0, hx132_1, hx132_2, hx132_3, hx132_4, hl132_1, hi132_1, hl132_2, hi132_2⟩ := at_T32 HR0.out x6_2 p132 q132; obtain rfl : ad130 = ad132 := (by injection e132); replace hx132_0 := (HB.out.cell (World.block_lt_of_cell? w _ hx132_0)).trans hx132_0; replace hx132_1 := (HB.out.cell (World.block_lt_of_cell? w _ hx132_1)).trans hx132_1; replace hx132_2 := (HB.out.cell (World.block_lt_of_cell? w _ hx132_2)).trans hx132_2; replace hx132_3 := (HB.out.cell (World.block_lt_of_cell? w _ hx132_3)).trans hx132_3; replace hx132_4 := (HB.out.cell (World.block_lt_of_cell? w _ hx132_4)).trans hx132_4; have HR132_1 := Aside0.mk hi132_1; have HC132_1 := Aside0.mk hl132_1; clear hi132_1 hl132_1; have HR132_2 := Aside0.mk hi132_2; have HC132_2 := Aside0.mk hl132_2; clear hi132_2 hl132_2; replace p132 := eq_true p132; replace q132 := eq_true q132; have ea_ := Option.some.inj (hx130_1.symm.trans hx132_1); injection ea_ with ea_ en_ ec_; subst ea_; subst ec_; clear en_; have ea_ := Option.some.inj (hx130_2.symm.trans hx132_2); injection ea_ with ea_ en_ ec_; subst ea_; subst ec_; clear en_) | (go_at_call 58; (with_reducible refine (spec_l18Ready.calls k2 _ _ l0 ((rd_T32 l0 x6_2).f0) _ _ ((rd_T32 l0 x6_2).f1) _ _ ((rd_T32 l0 x6_2).f2) ((rd_T32 l0 x6_2).f3) ((rd_T32 l0 x6_2).f4) _ _ x4_2 false _ ?side1 ?side2 ?side3 ?side4 ?side5 ?side6 ?side7 ?side8 A13.out).mono ?_); (case side1 => repeat (first | exact (Kd.C_below HR0.out (by repeat (first | (with_reducible first | exact HB.out | apply below_alloc | apply pw_below_drewN | apply below_drew1) | exact HB.out))) | (with_reducible refine Kd.C_alloc ?_ _) | (with_reducible refine Kd.C_drewN ?_ _) | (with_reducible refine Kd.C_drew ?_))); (case side2 => exact HC0.out); (case side3 => repeat (first | exact (Kd.C_below HR132_1.out (by repeat (first | (with_reducible first | exact HB.out | apply below_alloc | apply pw_below_drewN | apply below_drew1) | exact HB.out))) | (with_reducible refine Kd.C_alloc ?_ _) | (with_reducible refine Kd.C_drewN ?_ _) | (with_reducible refine Kd.C_drew ?_))); (case side4 => exact HC132_1.out); (case side5 => repeat (first | exact (Kd.C_below HR132_2.out (by repeat (first | (with_reducible first | exact HB.out | apply below_alloc | apply pw_below_drewN | apply below_drew1) | exact HB.out))) | (with_reducible refine Kd.C_alloc ?_ _) | (with_reducible refine Kd.C_drewN ?_ _) | (with_reducible refine Kd.C_drew ?_))); (case side6 => exact HC132_2.out); (case side7 => repeat (first | exact (Kd.R_reads' HO_4.out).2.2 | (with_reducible refine Kd.C_alloc ?_ _) | (with_reducible refine Kd.C_drewN ?_ _) | (with_reducible refine Kd.C_drew ?_))); (case side8 => exact (Kd.R_reads' HO_4.out).2.1); rintro e w20 ⟨rfl, hb⟩; have n0_ := Aside0.mk (Kd.R_below (by (with_reducible repeat (first | apply Kd.R_alloc | apply Kd.R_drewN | apply Kd.R_drew)); exact HO_4.out) hb); have n1_ := Aside0.mk (below_step (by repeat (first | (with_reducible first | exact HB.out | apply below_alloc | apply pw_below_drewN | apply below_drew1) | exact HB.out)) hb); clear HO_4; clear HB; have HO_4 := n0_; have HB := n1_; clear n0_ n1_; (try clear hb); (try clear hb2); (try clear hk); (try clear hi)))
                      go_roundg k2
                      case measure => have := HK1.out; have := HK2.out; omega
                      case rel => exact ⟨(x4_2), (wrap64 (x6_2 + 1)), (by first | rfl | (simp; done) | (simp [*]; done)), H', ⟨by have := HK1.out; have := HK2.out; omega⟩, ⟨by (with_reducible repeat (first | apply Kd.R_alloc | apply Kd.R_drewN | apply Kd.R_drew)); exact HO_4.out⟩, ⟨by repeat (first | (with_reducible first | exact HB.out | apply below_alloc | apply pw_below_drewN | apply below_drew1) | exact HB.out)⟩⟩
                · rw [if_neg c9] at H
                  exact absurd H (by simp)
              · rw [if_neg c8] at H
                have c8b0 : decide (x6_2 < (l0.length : Int)) = false := decide_eq_false c8
                clear c8
                have H' := Aside0.mk H
                clear H
                go_wp2
                go_roundg k2
                case measure => have := HK1.out; have := HK2.out; omega
                case rel => exact ⟨(x4_2), (wrap64 (x5_1 + 1)), (by first | rfl | (simp; done) | (simp [*]; done)), H', ⟨by have := HK1.out; have := HK2.out; omega⟩, ⟨by (with_reducible repeat (first | apply Kd.R_alloc | apply Kd.R_drewN | apply Kd.R_drew)); exact HO_4.out⟩, ⟨by repeat (first | (with_reducible first | exact HB.out | apply below_alloc | apply pw_below_drewN | apply below_drew1) | exact HB.out)⟩⟩
        · rw [if_neg c7] at H
          have c7b0 : decide (x5_1 < (l0.length : Int)) = false := decide_eq_false c7
          clear c7
          simp only [Option.some.injEq, Prod.mk.injEq] at H
          obtain ⟨rfl, rfl⟩ := H
          obtain ⟨Ao21, co21, eo21⟩ := Kd.R_slice HO_4.out
          subst eo21
          go_wp2
          go_ret2
          exact ⟨_, by first | rfl | (simp [errW_none, errW_some] <;> rfl) | (simp [*, errW_none, errW_some] <;> rfl), by (with_reducible repeat (first | apply Kd.R_alloc | apply Kd.R_drewN | apply Kd.R_drew)); exact HO_4.out, by repeat (first | (with_reducible first | exact HB.out | apply below_alloc | apply pw_below_drewN | apply below_drew1) | exact HB.out)⟩
  · replace c3 := Bool.eq_false_iff.mpr c3
    subst c3
    have H1 : (some (y126, false)) = some (r1, r2) := by rw [if_neg (show ¬ (false = true) by decide)] at H; exact H
    clear H
    have H := H1
    clear H1
    simp only [Option.some.injEq, Prod.mk.injEq] at H
    obtain ⟨rfl, rfl⟩ := H
    go_enter Try.func27, Try.ntmps27
    go_wp2_with (first | ((with_reducible refine gate_dst (N := 7) rfl ?_); refine Kd.R_lit Kd.string _ 9 ?hg (N := 7) ?hd (xs := ([] : List ByteArray)) (inner := []) (ok := fun _ => True) (okp := fun _ => True) ?hr ?hp (fun _ hk => hk) trivial (Below.refl _ _) (Nat.le_refl _) (by simp) ?_; (case hd => rfl); (case hg => rfl); (case hr => first | (go_simp; done) | (go_simp; rfl)); (case hp => exact (Reps.none _ _)); intro v127 w22 ho23 hb hg_ hnew_; clear hg_ hnew_; (first | rw [← Ny126.out] at ho23 | (simp only [Int.reduceToNat] at ho23; rw [← Ny126.out] at ho23)); have n0_ := Aside0.mk (Kd.R_lower ho23 (below_size (by repeat (first | (with_reducible first | exact HB.out | apply below_alloc | apply pw_below_drewN | apply below_drew1) | exact HB.out)))); have n1_ := Aside0.mk (below_step (by repeat (first | (with_reducible first | exact HB.out | apply below_alloc | apply pw_below_drewN | apply below_drew1) | exact HB.out)) hb); clear HB; have HO128 := n0_; have HB := n1_; clear n0_ n1_; clear hb ho23) | ((with_reducible refine gate_callee (f := 13) rfl ?_); refine goesL_ (some 9) rfl rfl Try.func13 (by kernel_rfl) rfl #[.slice A0 l0.length c0] rfl (by (try simp only [List.map_toArray, List.map_cons, List.map_nil]); first | done | rfl | (simp only [List.length_drop, List.length_take]; rfl)) ?_; (with_reducible refine (spec_UnitsOk.calls _ _ l0 false _ ?side1 ?side2 A2.out).mono ?_); (case side1 => repeat (first | exact (Kd.C_below HR0.out HB.out) | (with_reducible refine Kd.C_alloc ?_ _) | (with_reducible refine Kd.C_drewN ?_ _) | (with_reducible refine Kd.C_drew ?_))); (case side2 => exact HC0.out); rintro e w24 ⟨rfl, hb⟩; refine ⟨_, rfl, ?_⟩; have n0_ := Aside0.mk (Kd.R_below (by (with_reducible repeat (first | apply Kd.R_alloc | apply Kd.R_drewN | apply Kd.R_drew)); exact HO128.out) hb); have n1_ := Aside0.mk (below_step (by repeat (first | (with_reducible first | exact HB.out | apply below_alloc | apply pw_below_drewN | apply below_drew1) | exact HB.out)) hb); clear HO128; clear HB; have HO128 := n0_; have HB := n1_; clear n0_ n1_; (try clear hb); (try clear hb2); (try clear hk); (try clear hi)))
    go_ret2
    exact ⟨_, by first | rfl | (simp [errW_none, errW_some] <;> rfl) | (simp [*, errW_none, errW_some] <;> rfl), by (with_reducible repeat (first | apply Kd.R_alloc | apply Kd.R_drewN | apply Kd.R_drew)); exact HO128.out, by repeat (first | (with_reducible first | exact HB.out | apply below_alloc | apply pw_below_drewN | apply below_drew1) | exact HB.out)⟩
end Go.Proofs.Ytnjmhlhlmokjnaa.G
namespace Go.Proofs.Ytnjmhlhlmokjnaa.G
open Go.RowKit Go.Proofs.YtnjmhlhlmokjnaaW.PrintWords Go.Proofs.YtnjmhlhlmokjnaaW.PrintLast
set_option linter.unusedVariables false
set_option linter.unusedSimpArgs false
theorem ready_l1 (us : List S32) (hu : us.length ≤ 100) (o : List ByteArray) (ho : o.length ≤ 1000) (f0 : ByteArray) (f1 f2 : List ByteArray) (f3 : ByteArray) (f4 : Bool) (h1 : f1.length ≤ 20) (d : Nat) : ∀ i : Nat, i + d = f1.length →
    Ev (fun k => spec_l18Ready.l1 k us o (i : Int) f0 f1 f2 f3 f4) (((f1.drop i).filter (hasU us)).all (fun x => decide (x ∈ o))) := by
  induction d with
  | zero =>
    intro i hi
    rw [List.drop_eq_nil_of_le (by omega)]
    exact Ev.step (f := fun _ => some true) (fun k => by rw [spec_l18Ready.l1, if_neg (by omega)]) (Ev.now _)
  | succ d ih =>
    intro i hi
    have hil : i < f1.length := by omega
    have hw : wrap64 ((i : Int) + 1) = ((i + 1 : Nat) : Int) := by rw [wrap_id (by omega) (by omega)]; omega
    have hx := ih (i + 1) (by omega)
    rw [List.drop_eq_getElem_cons hil, List.filter_cons]
    refine Ev.step (fun k => by rw [spec_l18Ready.l1, if_pos (by omega), if_pos (by omega), rdOf_nat _ f1 i hil, hw]) (Ev.bind (l18Find_ev us f1[i] (by omega)) ?_)
    cases hh : hasU us f1[i] with
    | false =>
      have hge : ¬ findU us f1[i] ≥ 0 := by rw [findU_ge, hh]; decide
      rw [if_neg (by decide)]
      exact Ev.congr (fun k => if_neg hge) hx
    | true =>
      have hge : findU us f1[i] ≥ 0 := by rw [findU_ge]; exact hh
      rw [if_pos rfl, List.all_cons]
      refine Ev.congr (fun k => if_pos hge) (Ev.bind (l3Has_ev o f1[i] (by omega)) ?_)
      cases decide (f1[i] ∈ o) with
      | false => exact Ev.congr (fun k => if_neg (by decide)) (Ev.now _)
      | true => exact Ev.congr (fun k => if_pos rfl) hx
theorem ready_l0 (us : List S32) (hu : us.length ≤ 100) (o : List ByteArray) (ho : o.length ≤ 1000) (f0 : ByteArray) (f1 f2 : List ByteArray) (f3 : ByteArray) (f4 : Bool) (h1 : f1.length ≤ 20) (h2 : f2.length ≤ 20) (d : Nat) : ∀ i : Nat, i + d = f2.length →
    Ev (fun k => spec_l18Ready.l0 k us o (i : Int) f0 f1 f2 f3 f4) ((f2.drop i ++ f1.filter (hasU us)).all (fun x => decide (x ∈ o))) := by
  induction d with
  | zero =>
    intro i hi
    rw [List.drop_eq_nil_of_le (by omega), List.nil_append]
    have := ready_l1 us hu o ho f0 f1 f2 f3 f4 h1 f1.length 0 (by omega)
    rw [List.drop_zero] at this
    exact Ev.step (fun k => by rw [spec_l18Ready.l0, if_neg (by omega)]; rfl) this
  | succ d ih =>
    intro i hi
    have hil : i < f2.length := by omega
    have hw : wrap64 ((i : Int) + 1) = ((i + 1 : Nat) : Int) := by rw [wrap_id (by omega) (by omega)]; omega
    have hx := ih (i + 1) (by omega)
    rw [List.drop_eq_getElem_cons hil, List.cons_append, List.all_cons]
    refine Ev.step (fun k => by rw [spec_l18Ready.l0, if_pos (by omega), if_pos (by omega), rdOf_nat _ f2 i hil, hw]) (Ev.bind (l3Has_ev o f2[i] (by omega)) ?_)
    cases decide (f2[i] ∈ o) with
    | false => exact Ev.congr (fun k => if_neg (by decide)) (Ev.now _)
    | true => exact Ev.congr (fun k => if_pos rfl) hx
theorem ready_ev (us : List S32) (hu : us.length ≤ 100) (o : List ByteArray) (ho : o.length ≤ 1000) (u : S32) (h1 : u.f1.length ≤ 20) (h2 : u.f2.length ≤ 20) : Ev (fun k => spec_l18Ready.f k us u.f0 u.f1 u.f2 u.f3 u.f4 o) ((waitsL us u).all (fun x => decide (x ∈ o))) := by
  have := ready_l0 us hu o ho u.f0 u.f1 u.f2 u.f3 u.f4 h1 h2 u.f2.length 0 (by omega)
  rw [List.drop_zero] at this
  exact this
theorem order_l1 (us : List S32) (hu : us.length ≤ 100) (hg : ∀ u ∈ us, u.f1.length ≤ 20 ∧ u.f2.length ≤ 20) (o : List ByteArray) (ho : o.length ≤ 100) (i : Nat) (hi : i < us.length) (R : List ByteArray × Bool)
    (next : ∀ o', (match us.find? (readyB us o) with | none => o' = o | some u => o' = o ++ [u.f0]) → Ev (fun k => spec_StartOrder.l0 k us o' ((i + 1 : Nat) : Int)) R) (d : Nat) : ∀ j : Nat, j + d = us.length → (∀ j' : Nat, j' < j → readyB us o (rd_T32 us (j' : Int)) = false) →
    Ev (fun k => spec_StartOrder.l1 k us o (i : Int) (j : Int)) R := by
  induction d with
  | zero =>
    intro j hj hno
    have hw : wrap64 ((i : Int) + 1) = ((i + 1 : Nat) : Int) := by rw [wrap_id (by omega) (by omega)]; omega
    have hn := find_none (us := us) (p := readyB us o) (fun j' h => hno j' (by omega))
    refine Ev.step (fun k => by rw [spec_StartOrder.l1, if_neg (by omega), hw]) (next o ?_)
    rw [hn]
  | succ d ih =>
    intro j hj hno
    have hjl : j < us.length := by omega
    have hmem : us[j] ∈ us := List.getElem_mem hjl
    have hwj : wrap64 ((j : Int) + 1) = ((j + 1 : Nat) : Int) := by rw [wrap_id (by omega) (by omega)]; omega
    have more : readyB us o us[j] = false → Ev (fun k => spec_StartOrder.l1 k us o (i : Int) ((j + 1 : Nat) : Int)) R := fun h => ih (j + 1) (by omega) (fun j' hj' => by
      rcases Nat.lt_or_ge j' j with h' | h'
      · exact hno j' h'
      · obtain rfl : j' = j := by omega
        rw [rd_T32_nat us j' hjl]; exact h)
    refine Ev.step (fun k => by rw [spec_StartOrder.l1, if_pos (by omega), if_pos (by omega), rd_T32_nat us j hjl, hwj]) (Ev.bind (l3Has_ev o us[j].f0 (by omega)) ?_)
    clear hwj
    by_cases hm : us[j].f0 ∈ o
    · rw [decide_eq_true hm]
      refine Ev.congr (fun k => if_pos rfl) (more ?_)
      unfold readyB
      rw [decide_eq_true hm]; rfl
    · rw [decide_eq_false hm]
      have hr : readyB us o us[j] = (waitsL us us[j]).all (fun x => decide (x ∈ o)) := by
        unfold readyB
        rw [decide_eq_false hm]; rfl
      refine Ev.congr (fun k => if_neg (by decide)) (Ev.bind (ready_ev us hu o (by omega) us[j] (hg _ hmem).1 (hg _ hmem).2) ?_)
      rw [← hr]
      cases hrd : readyB us o us[j] with
      | false => exact Ev.congr (fun k => if_neg (by decide)) (more hrd)
      | true =>
        have hw : wrap64 ((i : Int) + 1) = ((i + 1 : Nat) : Int) := by rw [wrap_id (by omega) (by omega)]; omega
        refine Ev.congr (fun k => by rw [if_pos rfl, if_pos (by omega), hw]) (next _ ?_)
        rw [find_at hjl hno hrd]
theorem order_l0 (us : List S32) (hu : us.length ≤ 100) (hg : ∀ u ∈ us, u.f1.length ≤ 20 ∧ u.f2.length ≤ 20) (d : Nat) : ∀ (i : Nat) (o : List ByteArray), i + d = us.length → o.length ≤ i →
    Ev (fun k => spec_StartOrder.l0 k us o (i : Int)) (orderL us d o, ((orderL us d o).length : Int) == (us.length : Int)) := by
  induction d with
  | zero =>
    intro i o hi ho
    exact Ev.step (f := fun _ => some (o, (o.length : Int) == (us.length : Int))) (fun k => by rw [spec_StartOrder.l0, if_neg (by omega)]) (Ev.now _)
  | succ d ih =>
    intro i o hi ho
    refine Ev.step (fun k => by rw [spec_StartOrder.l0, if_pos (by omega)]; rfl) (order_l1 us hu hg o (by omega) i (by omega) _ (fun o' ho' => ?_) us.length 0 (by omega) (fun j' h => absurd h (Nat.not_lt_zero _)))
    have e : orderL us (d + 1) o = orderL us d o' := by
      cases hf : us.find? (readyB us o) with
      | none =>
        rw [hf] at ho'
        subst ho'
        rw [show orderL us (d + 1) o' = o' by unfold orderL; rw [hf]]
        cases d with
        | zero => rfl
        | succ d => unfold orderL; rw [hf]
      | some u =>
        rw [hf] at ho'
        subst ho'
        show (match us.find? (readyB us o) with | none => o | some u => orderL us d (o ++ [u.f0])) = _
        rw [hf]
    rw [e]
    refine ih (i + 1) o' (by omega) ?_
    cases hf : us.find? (readyB us o) with
    | none => rw [hf] at ho'; subst ho'; omega
    | some u => rw [hf] at ho'; subst ho'; simp; omega
theorem specOrder_ev (us : List S32) : Ev (fun k => spec_StartOrder.f k us) (if unitsOkB us = true then (startL us, ((startL us).length : Int) == (us.length : Int)) else ([], false)) := by
  cases hok : unitsOkB us with
  | false =>
    refine Ev.congr (fun k => ?_) (Ev.now _)
    simp [spec_StartOrder.f, spec_UnitsOk.f, hok]
  | true =>
    have hg := good_of_ok hok
    rw [if_pos rfl]
    refine Ev.congr (f := fun k => spec_StartOrder.l0 k us [] 0) (fun k => ?_) (order_l0 us hg.len (fun u h => ⟨(unit_good (hg.unit u h)).after, (unit_good (hg.unit u h)).needs⟩) us.length 0 [] (by omega) (by simp))
    simp only [spec_StartOrder.f, spec_UnitsOk.f, hok, Option.bind_some, if_true]
end Go.Proofs.Ytnjmhlhlmokjnaa.G
namespace Go.Proofs.Ytnjmhlhlmokjnaa.G
open Go.RowKit Go.Maps Go.Proofs.YtnjmhlhlmokjnaaW.PrintWords Go.Proofs.YtnjmhlhlmokjnaaW.PrintLast Go.Proofs.YtnjmhlhlmokjnaaW.PrintMore
set_option linter.unusedVariables false
set_option linter.unusedSimpArgs false
theorem findFrom_bound (us : List S32) (x : ByteArray) (d : Nat) : ∀ i, i + d = us.length → findFrom us x i d < (us.length : Int) := by
  induction d with
  | zero => intro i hi; unfold findFrom; omega
  | succ d ih =>
    intro i hi
    unfold findFrom
    split
    · omega
    · exact ih (i + 1) (by omega)
theorem findU_bound (us : List S32) (x : ByteArray) : findU us x < (us.length : Int) := findFrom_bound us x us.length 0 (by omega)
theorem startL_inv (us : List S32) : OrdInv us (startL us) := by
  have key : ∀ n o, OrdInv us o → us.length - o.length = n → OrdInv us (orderL us n o) := by
    intro n
    induction n with
    | zero => intro o h _; exact h
    | succ n ih =>
      intro o h hn
      unfold orderL
      cases hf : us.find? (readyB us o) with
      | none => exact h
      | some u => exact ih _ (h.next hf) (by simp; omega)
  exact key _ [] (OrdInv.start us) (by simp)
def execU (us : List S32) (s : ByteArray) : ByteArray := (rd_T32 us (findU us s)).f3
def keepU (us : List S32) (s : ByteArray) : Bool := (rd_T32 us (findU us s)).f4
def restB (old new : List S32) (s : ByteArray) : Bool := hasU old s && !decide (execU old s = execU new s) && !keepU new s
def stopA (us : List S32) (c : Nat) : List ByteArray := ((us.take c).reverse.filter (fun u => !decide (u.f0 ∈ startL us))).map (·.f0)
def stopsL (us : List S32) : List ByteArray := stopA us us.length ++ (startL us).reverse
def stopAct (new : List S32) (running : List ByteArray) (s : ByteArray) : Option S55 := if decide (s ∈ running) && !hasU new s then some ⟨1, s⟩ else none
def startAct (old new : List S32) (running : List ByteArray) (s : ByteArray) : Option S55 := if decide (s ∈ running) then (if restB old new s then some ⟨3, s⟩ else none) else some ⟨2, s⟩
def planL (old new : List S32) (running : List ByteArray) : List S55 := (stopsL old).filterMap (stopAct new running) ++ (startL new).filterMap (startAct old new running)
def planF (old new : List S32) (run : List ByteArray) : List S55 := if unitsOkB old && unitsOkB new && decide (run.length ≤ 2000) then planL old new run else []
def impl_PlanUnits.f (old new : List S32) (run : List ByteArray) : Option (List S55) := some (planF old new run)
def spec_PlanUnits.f (old new : List S32) (run : List ByteArray) : Option (List S55) := some (planF old new run)
theorem stopA_len (us : List S32) (c : Nat) : (stopA us c).length ≤ us.length := by
  have h2 := List.length_filter_le (fun u : S32 => !decide (u.f0 ∈ startL us)) (us.take c).reverse
  unfold stopA
  simp only [List.length_map, List.length_reverse, List.length_take] at h2 ⊢
  omega
theorem stopsL_len (us : List S32) : (stopsL us).length ≤ us.length + us.length := by
  have h1 := (startL_inv us).len
  have h2 := stopA_len us us.length
  unfold stopsL
  simp only [List.length_append, List.length_reverse]
  omega
theorem hasU_start {us : List S32} {s : ByteArray} (h : s ∈ startL us) : hasU us s = true := decide_eq_true ((startL_inv us).sub s h)
theorem stopA_step {us : List S32} {c : Nat} (h : c < us.length) : stopA us (c + 1) = (if decide (us[c].f0 ∈ startL us) then [] else [us[c].f0]) ++ stopA us c := by
  unfold stopA
  rw [List.take_succ_eq_append_getElem h, List.reverse_append, List.reverse_singleton, List.singleton_append, List.filter_cons]
  cases decide (us[c].f0 ∈ startL us) <;> simp
theorem rev_step {o : List ByteArray} {c : Nat} (h : c < o.length) : (o.take (c + 1)).reverse = [o[c]] ++ (o.take c).reverse := by
  rw [List.take_succ_eq_append_getElem h, List.reverse_append, List.reverse_singleton]
theorem fm_step {f : ByteArray → Option S55} {l : List ByteArray} {i : Nat} (h : i < l.length) : (l.take (i + 1)).filterMap f = (l.take i).filterMap f ++ (f l[i]).toList := by
  rw [List.take_succ_eq_append_getElem h, List.filterMap_append]
  cases e : f l[i] <;> simp [List.filterMap, e]
theorem cell_new34 (w : World) {s a b c d : Value} : (w.alloc (.cells #[s, a, b, c, d] 32)).cell? ⟨w.heap.size, 3, none⟩ = some c ∧ (w.alloc (.cells #[s, a, b, c, d] 32)).cell? ⟨w.heap.size, 4, none⟩ = some d := by
  have := blk_new w (.cells #[s, a, b, c, d] 32)
  unfold World.cell?
  rw [this]
  exact ⟨rfl, rfl⟩
theorem start_in {old new : List S32} {run : List ByteArray} {s : ByteArray} (h : decide (s ∈ run) = false) : startAct old new run s = some ⟨2, s⟩ := by
  unfold startAct; rw [h]; rfl
theorem start_out {old new : List S32} {run : List ByteArray} {s : ByteArray} (h : decide (s ∈ run) = true) (hr : restB old new s = false) : startAct old new run s = none := by
  unfold startAct; rw [h, hr]; rfl
theorem start_re {old new : List S32} {run : List ByteArray} {s : ByteArray} (h : decide (s ∈ run) = true) (hr : restB old new s = true) : startAct old new run s = some ⟨3, s⟩ := by
  unfold startAct; rw [h, hr]; rfl
theorem fm_none {f : ByteArray → Option S55} {l : List ByteArray} {i : Nat} (h : i < l.length) (e : f l[i] = none) : (l.take (i + 1)).filterMap f = (l.take i).filterMap f := by
  rw [fm_step h, e]; simp
theorem fm_some {f : ByteArray → Option S55} {l : List ByteArray} {i : Nat} (h : i < l.length) {b : S55} (e : f l[i] = some b) : (l.take (i + 1)).filterMap f = (l.take i).filterMap f ++ [b] := by
  rw [fm_step h, e]; rfl
theorem drawn_below {w w' : World} (h : Drawn0 w w') : Below w.heap.size w w' := by
  obtain ⟨m, rfl⟩ := h.out
  exact pw_below_drewN (Below.refl _ _) m
theorem in_c (A : Option Addr) (c : Nat) (l : List ByteArray) (x : ByteArray) (w : World) (hr : Kd.C Kd.string w A l.length l) (hc : l.length ≤ c) :
    Calls Try.prog 66 #[.slice A l.length c, .string x] w fun e w' => e = .returned (.bool (decide (x ∈ l))) ∧ Below w.heap.size w w' := by
  obtain ⟨k, hk⟩ := (inList_ev l x (len_le hr)).rounds
  exact (impl_inList.calls k A c l x _ w hr hc hk).mono fun e w' ⟨h1, h2⟩ => ⟨h1, drawn_below h2⟩
theorem has_c (A : Option Addr) (c : Nat) (l : List ByteArray) (x : ByteArray) (w : World) (hr : Kd.C Kd.string w A l.length l) (hc : l.length ≤ c) :
    Calls Try.prog 51 #[.slice A l.length c, .string x] w fun e w' => e = .returned (.bool (decide (x ∈ l))) ∧ Below w.heap.size w w' := by
  obtain ⟨k, hk⟩ := (l3Has_ev l x (len_le hr)).rounds
  exact (spec_l3Has.calls k A c l x _ w hr hc hk).mono fun e w' ⟨h1, h2⟩ => ⟨h1, drawn_below h2⟩
theorem find_c (A0 : Option Addr) (c0 : Nat) (l0 : List S32) (x : ByteArray) (w : World) (hr0 : Kd.C k32 w A0 l0.length l0) (hc0 : l0.length ≤ c0) (hl : l0.length ≤ 9223372036854775807) :
    Calls Try.prog 52 #[.slice A0 l0.length c0, .string x] w fun e w' => e = .returned (.int .i64 (findU l0 x)) ∧ Below w.heap.size w w' := by
  obtain ⟨k, hk⟩ := (l18Find_ev l0 x hl).rounds
  exact (spec_l18Find.calls k A0 c0 l0 x _ w hr0 hc0 hk).mono fun e w' ⟨h1, h2⟩ => ⟨h1, drawn_below h2⟩
end Go.Proofs.Ytnjmhlhlmokjnaa.G
