/-
  Part 7 of the texts of this claim: PureFnFailing.
-/
import Derived.Test.YtnjmhlhlmokjnaaFail6
namespace Go.Proofs.Ytnjmhlhlmokjnaa.Pure
open Go.RowKit Go.Proofs.Ytnjmhlhlmokjnaa.G Go.Proofs.YtnjmhlhlmokjnaaW.PrintWords Go.Proofs.YtnjmhlhlmokjnaaW.PrintLast
set_option linter.unusedVariables false
set_option linter.unusedSimpArgs false
theorem lhas_loop (l : List ByteArray) (x : ByteArray) (hl : l.length ≤ 9223372036854775807) (d : Nat) : ∀ i : Nat, i + d = l.length → Ev (fun k => laws_has.l0 k l x (i : Int)) (decide (x ∈ l.drop i)) := by
  induction d with
  | zero =>
    intro i hi
    rw [List.drop_eq_nil_of_le (by omega)]
    exact Ev.step (f := fun _ => some false) (fun k => by rw [laws_has.l0, if_neg (by omega)]) (Ev.now _)
  | succ d ih =>
    intro i hi
    have hx := ih (i + 1) (by omega)
    have hw : wrap64 ((i : Int) + 1) = ((i + 1 : Nat) : Int) := by rw [wrap_id (by omega) (by omega)]; omega
    refine Ev.step (f := fun k => if l[i] = x then some true else laws_has.l0 k l x ((i + 1 : Nat) : Int)) (fun k => ?_) ?_
    · rw [laws_has.l0, hw, if_pos (by omega), if_pos (by omega), rdOf_nat _ l i (by omega)]
      simp only [toList_iff]
    · rw [mem_drop_step (by omega)]
      split
      · rename_i h
        rw [decide_eq_true h]
        exact Ev.now _
      · rename_i h
        rw [decide_eq_false h]
        exact hx
theorem lhas_ev (l : List ByteArray) (x : ByteArray) (hl : l.length ≤ 9223372036854775807) : Ev (fun k => laws_has.f k l x) (decide (x ∈ l)) := lhas_loop l x hl l.length 0 (by omega)
theorem lunit_loop (us : List S32) (x : ByteArray) (hl : us.length ≤ 9223372036854775807) (d : Nat) : ∀ i : Nat, i + d = us.length → Ev (fun k => laws_unit.l0 k us x (i : Int)) (findFrom us x i d) := by
  induction d with
  | zero =>
    intro i hi
    exact Ev.step (f := fun _ => some (-1)) (fun k => by rw [laws_unit.l0, if_neg (by omega)]) (Ev.now _)
  | succ d ih =>
    intro i hi
    have hx := ih (i + 1) (by omega)
    have hw : wrap64 ((i : Int) + 1) = ((i + 1 : Nat) : Int) := by rw [wrap_id (by omega) (by omega)]; omega
    refine Ev.step (f := fun k => if (rd_T32 us (i : Int)).f0 = x then some (i : Int) else laws_unit.l0 k us x ((i + 1 : Nat) : Int)) (fun k => ?_) ?_
    · rw [laws_unit.l0, hw, if_pos (by omega), if_pos (by omega)]
      simp only [toList_iff]
    · unfold findFrom
      split
      · exact Ev.now _
      · exact hx
theorem lunit_ev (us : List S32) (x : ByteArray) (hl : us.length ≤ 9223372036854775807) : Ev (fun k => laws_unit.f k us x) (findU us x) := lunit_loop us x hl us.length 0 (by omega)
theorem failL_why {us : List S32} {br : List ByteArray} : ∀ x ∈ failL us br, ∃ u ∈ us, u.f0 = x ∧ (u.f0 ∈ br ∨ ∃ n ∈ u.f2, hasU us n = false ∨ n ∈ failL us br) := by
  have step : ∀ x, (∃ u ∈ us, u.f0 = x ∧ (u.f0 ∈ br ∨ ∃ n ∈ u.f2, hasU us n = false ∨ n ∈ failL us br)) → x ∈ failL us br := by
    rintro x ⟨u, hu, rfl, h | ⟨n, hn, h⟩⟩
    · exact failL_base h (decide_eq_true (List.mem_map.2 ⟨u, hu, rfl⟩))
    · exact failL_closed us br u hu ⟨n, hn, h⟩
  refine failL_least ?_ ?_
  · intro u hu ⟨n, hn, h⟩
    exact ⟨u, hu, rfl, .inr ⟨n, hn, h.imp id (step n)⟩⟩
  · intro x hx hh
    obtain ⟨u, hu, rfl⟩ := List.mem_map.1 (of_decide_eq_true hh)
    exact ⟨u, hu, rfl, .inl hx⟩
theorem name_inj {us : List S32} (h : Asc (namesU us)) {u v : S32} (hu : u ∈ us) (hv : v ∈ us) (e : u.f0 = v.f0) : u = v := by
  obtain ⟨i, hi, rfl⟩ := List.getElem_of_mem hu
  obtain ⟨j, hj, rfl⟩ := List.getElem_of_mem hv
  have hp := List.pairwise_iff_getElem.1 h
  rcases Nat.lt_trichotomy i j with hlt | rfl | hlt
  · have := hp i j (by simpa [namesU] using hi) (by simpa [namesU] using hj) hlt
    simp only [namesU, List.getElem_map] at this
    rw [e, lt_irrefl] at this; cases this
  · rfl
  · have := hp j i (by simpa [namesU] using hj) (by simpa [namesU] using hi) hlt
    simp only [namesU, List.getElem_map] at this
    rw [e, lt_irrefl] at this; cases this
theorem why_eq {us : List S32} (hg : G.Good us) {br : List ByteArray} {u : S32} (hu : u ∈ us) :
    (decide (u.f0 ∈ br) || u.f2.any (fun m => !hasU us m || decide (m ∈ canonL (failL us br)))) = decide (u.f0 ∈ canonL (failL us br)) := by
  rw [Bool.eq_iff_iff, Bool.or_eq_true, decide_eq_true_eq, decide_eq_true_eq, mem_canonL, List.any_eq_true]
  constructor
  · rintro (h | ⟨m, hm, h⟩)
    · exact failL_base h (decide_eq_true (List.mem_map.2 ⟨u, hu, rfl⟩))
    · refine failL_closed us br u hu ⟨m, hm, ?_⟩
      simpa [mem_canonL] using h
  · intro h
    obtain ⟨v, hv, e, hw⟩ := failL_why _ h
    obtain rfl := name_inj hg.asc hv hu e
    refine hw.imp id ?_
    rintro ⟨m, hm, h⟩
    exact ⟨m, hm, by simpa [mem_canonL] using h⟩
theorem failL_mono {us : List S32} {br br' : List ByteArray} (h : ∀ x ∈ br', x ∈ br) : ∀ x ∈ failL us br', x ∈ failL us br :=
  failL_least (failL_closed us br) (fun x hx hh => failL_base (h x hx) hh)
theorem canon_len {us : List S32} (br : List ByteArray) : (canonL (failL us br)).length ≤ us.length := by
  have := nodup_sub_len (asc_nodup (asc_canonL (failL us br))) (l := namesU us) (fun x hx => of_decide_eq_true (failL_has x ((mem_canonL x _).1 hx)))
  simpa [namesU] using this
theorem fewer_loop (f w : List ByteArray) (hf : f.length ≤ 9223372036854775807) (hw9 : w.length ≤ 9223372036854775807) (hs : ∀ x ∈ w, x ∈ f) (d : Nat) : ∀ i : Nat, i + d = w.length → Ev (fun k => laws_FnFailing.l2 k f w (i : Int)) true := by
  induction d with
  | zero =>
    intro i hi
    refine Ev.step (f := fun _ => some true) (fun k => ?_) (Ev.now _)
    rw [laws_FnFailing.l2, if_neg (by omega)]
    rfl
  | succ d ih =>
    intro i hi
    have hil : i < w.length := by omega
    have hw : wrap64 ((i : Int) + 1) = ((i + 1 : Nat) : Int) := by rw [wrap_id (by omega) (by omega)]; omega
    refine Ev.step (fun k => by rw [laws_FnFailing.l2, if_pos (by omega), if_pos (by omega), hw, rdOf_nat _ w i hil]) (Ev.bind (lhas_ev f w[i] hf) ?_)
    rw [decide_eq_true (hs _ (List.getElem_mem hil))]
    exact Ev.congr (fun k => if_pos rfl) (ih (i + 1) (by omega))
theorem needs_loop (us : List S32) (br f : List ByteArray) (hu : us.length ≤ 100) (hf : f.length ≤ 100) (i : Nat) (hi : i < us.length) (h2 : us[i].f2.length ≤ 20) (next : Ev (fun k => laws_FnFailing.l0 k us br f ((i + 1 : Nat) : Int)) true) (d : Nat) :
    ∀ (j : Nat) (bad : Bool), j + d = us[i].f2.length → (bad || (us[i].f2.drop j).any (fun m => !hasU us m || decide (m ∈ f))) = decide (us[i].f0 ∈ f) → Ev (fun k => laws_FnFailing.l1 k us br f (i : Int) bad (j : Int)) true := by
  have er := rd_T32_nat us i hi
  induction d with
  | zero =>
    intro j bad hj h
    have hw : wrap64 ((i : Int) + 1) = ((i + 1 : Nat) : Int) := by rw [wrap_id (by omega) (by omega)]; omega
    rw [List.drop_eq_nil_of_le (by omega), List.any_nil, Bool.or_false] at h
    refine Ev.step (fun k => by rw [laws_FnFailing.l1, if_pos (by omega), if_pos (by omega), er, if_neg (by omega), hw]) (Ev.bind (lhas_ev f us[i].f0 (by omega)) ?_)
    rw [h]
    exact Ev.congr (fun k => if_neg (by simp)) next
  | succ d ih =>
    intro j bad hj h
    have hjl : j < us[i].f2.length := by omega
    have hw : wrap64 ((j : Int) + 1) = ((j + 1 : Nat) : Int) := by rw [wrap_id (by omega) (by omega)]; omega
    rw [List.drop_eq_getElem_cons hjl, List.any_cons] at h
    cases bad with
    | true =>
      refine Ev.step (fun k => by rw [laws_FnFailing.l1, if_pos (by omega), if_pos (by omega), er, if_pos (by omega), if_pos rfl, hw]) (ih (j + 1) true (by omega) ?_)
      simpa using h
    | false =>
      refine Ev.step (fun k => by rw [laws_FnFailing.l1, if_pos (by omega), if_pos (by omega), er, if_pos (by omega), if_neg (by decide), if_pos (by omega), hw, rdOf_nat _ _ j hjl]) (Ev.bind (lunit_ev us us[i].f2[j] (by omega)) ?_)
      cases hh : hasU us us[i].f2[j] with
      | false =>
        have hlt : findU us us[i].f2[j] < 0 := of_decide_eq_true ((findU_lt us _).trans (by rw [hh]; rfl))
        refine Ev.congr (fun k => if_pos hlt) (ih (j + 1) true (by omega) ?_)
        simpa [hh] using h
      | true =>
        have hlt : ¬ findU us us[i].f2[j] < 0 := of_decide_eq_false ((findU_lt us _).trans (by rw [hh]; rfl))
        refine Ev.congr (fun k => if_neg hlt) (Ev.bind (lhas_ev f us[i].f2[j] (by omega)) (ih (j + 1) _ (by omega) ?_))
        simpa [hh] using h
theorem units_loop (us : List S32) (br : List ByteArray) (hg : G.Good us) (hbr : br.length ≤ 2000) (h2 : ∀ u ∈ us, u.f2.length ≤ 20) (hok : unitsOkB us = true) (d : Nat) : ∀ i : Nat, i + d = us.length → Ev (fun k => laws_FnFailing.l0 k us br (canonL (failL us br)) (i : Int)) true := by
  have hlen := hg.len
  have hcl := canon_len (us := us) br
  induction d with
  | zero =>
    intro i hi
    have hw : wrap64 ((br.length : Int) / 2) = ((br.length / 2 : Nat) : Int) := by rw [wrap_id (by omega) (by omega)]; omega
    have hff : impl_Failing.f us (br.take (br.length / 2)) = some (canonL (failL us (br.take (br.length / 2)))) := by
      unfold impl_Failing.f
      rw [hok, decide_eq_true (by rw [List.length_take]; omega)]
      rfl
    have hcl2 := canon_len (us := us) (br.take (br.length / 2))
    refine Ev.step (f := fun k => laws_FnFailing.l2 k (canonL (failL us br)) (canonL (failL us (br.take (br.length / 2)))) 0) (fun k => ?_) (fewer_loop _ _ (by omega) (by omega) (fun x hx => ?_) (canonL (failL us (br.take (br.length / 2)))).length 0 (by omega))
    · rw [laws_FnFailing.l0, if_neg (by omega), hw, if_pos (by omega), if_pos (by omega), Int.toNat_natCast, hff]
      rfl
    · rw [mem_canonL] at hx ⊢
      exact failL_mono (fun y hy => List.mem_of_mem_take hy) x hx
  | succ d ih =>
    intro i hi
    have hil : i < us.length := by omega
    have hmem : us[i] ∈ us := List.getElem_mem hil
    refine Ev.step (fun k => by rw [laws_FnFailing.l0, if_pos (by omega), if_pos (by omega), rd_T32_nat us i hil]) (Ev.bind (lhas_ev br us[i].f0 (by omega)) ?_)
    refine needs_loop us br _ (by omega) (by omega) i hil (h2 _ hmem) (ih (i + 1) (by omega)) us[i].f2.length 0 _ (by omega) ?_
    rw [List.drop_zero]
    exact why_eq hg hmem
theorem FnFailing : laws_FnFailing.Pure := by
  intro l0 hl hsz hwf
  refine Ev.rounds ?_
  unfold maxLen at hl
  unfold laws_FnFailing.f laws_big.f
  by_cases hb : (l0.length : Int) > 1048576
  · refine Ev.congr (fun k => ?_) (Ev.now true)
    simp only [Option.bind_some]
    rw [if_pos (decide_eq_true hb)]
  · refine Ev.congr (f := fun k => (spec_DrawFailing.f k l0).bind fun bt232 => ((impl_Failing.f bt232.1 bt232.2).bind fun t238 => ((spec_UnitsOk.f bt232.1).bind fun t241 => (if t241 = true then ((spec_Failing.f k bt232.1 bt232.2).bind fun t246 => (if (t238.length : Int) = (t246.length : Int) then (laws_FnFailing.l0 k bt232.1 bt232.2 t238 0) else (some false))) else (if (t238.length : Int) = 0 then ((impl_UnitsOk.f (([] : List (S32)))).bind fun t245 => (some t245)) else (some false)))))) (fun k => ?_) ?_
    · simp only [Option.bind_some]
      rw [if_neg (by simpa using hb)]
    · obtain ⟨c2, e1⟩ := new_tot l0 (by omega)
      obtain ⟨us, t1, t2, e2, p, hus⟩ := draw_tot l0 (by omega) 0 c2 (by omega)
      obtain ⟨br, v1, v2, e3, _, hbr⟩ := drawNames_tot l0 (by omega) t1 t2 p
      have e : Ev (fun k => spec_DrawFailing.f k l0) (us, br) := by
        unfold spec_DrawFailing.f
        exact Ev.bind e1 (Ev.bind e2 (Ev.bind e3 (Ev.now _)))
      refine Ev.bind e ?_
      cases hok : unitsOkB us with
      | false =>
        refine Ev.congr (fun k => ?_) (Ev.now true)
        simp [impl_Failing.f, spec_UnitsOk.f, hok]
        rfl
      | true =>
        have hg := good_of_ok hok
        have h2 : ∀ u ∈ us, u.f2.length ≤ 20 := fun u h => by
          have := hg.unit u h
          unfold unitB at this
          simp only [Bool.and_eq_true, decide_eq_true_eq] at this
          exact this.1.1.1.2
        have es := specFailing_ev us br (by omega)
        rw [hok, decide_eq_true (show br.length ≤ 2000 by omega)] at es
        refine Ev.congr (f := fun k => (spec_Failing.f k us br).bind fun t246 => (if ((canonL (failL us br)).length : Int) = (t246.length : Int) then (laws_FnFailing.l0 k us br (canonL (failL us br)) 0) else (some false))) (fun k => ?_) (Ev.bind es ?_)
        · simp only [impl_Failing.f, spec_UnitsOk.f, hok, decide_eq_true (show br.length ≤ 2000 by omega), Option.bind_some, if_true, Bool.and_self]
        · refine Ev.congr (fun k => if_pos rfl) (units_loop us br hg (by omega) h2 hok us.length 0 (by omega))
end Go.Proofs.Ytnjmhlhlmokjnaa.Pure
