/-
  Part 8 of the texts of this claim: XPlanSem, XPureDraw, PureFnPlanReaches.
-/
import Derived.Laws.BitsLemmas
import Derived.Test.YtnjmhlhlmokjnaaPlan7
namespace Go.Proofs.Ytnjmhlhlmokjnaa.G
set_option linter.unusedVariables false
set_option linter.unusedSimpArgs false
def Apart (ac : List S55) : Prop := ∀ a ∈ ac, ∀ b ∈ ac, a.f0 = 1 → b.f0 ≠ 1 → a.f1 ≠ b.f1
theorem actsL_mem : ∀ (ac : List S55) (l : List ByteArray) (x : ByteArray), Apart ac → (x ∈ actsL l ac ↔ (x ∈ l ∧ ¬ ∃ a ∈ ac, a.f0 = 1 ∧ a.f1 = x) ∨ ∃ a ∈ ac, a.f0 ≠ 1 ∧ a.f1 = x)
  | [], l, x, _ => by simp [actsL]
  | a :: ac, l, x, h => by
    have hx : Apart ac := fun a ha b hb => h a (List.mem_cons_of_mem _ ha) b (List.mem_cons_of_mem _ hb)
    have ih := actsL_mem ac (stepA l a) x hx
    have e : actsL l (a :: ac) = actsL (stepA l a) ac := rfl
    rw [e, ih]
    by_cases hk : a.f0 = 1
    · have hm : x ∈ stepA l a ↔ x ∈ l ∧ x ≠ a.f1 := by
        unfold stepA
        rw [if_pos hk, List.mem_filter]
        simp
      rw [hm]
      constructor
      · rintro (⟨⟨h1, h2⟩, h3⟩ | ⟨b, hb, h1, h2⟩)
        · refine .inl ⟨h1, ?_⟩
          rintro ⟨b, hb, k1, k2⟩
          rcases List.mem_cons.1 hb with rfl | hb
          · exact h2 k2.symm
          · exact h3 ⟨b, hb, k1, k2⟩
        · exact .inr ⟨b, List.mem_cons_of_mem _ hb, h1, h2⟩
      · rintro (⟨h1, h2⟩ | ⟨b, hb, h1, h2⟩)
        · exact .inl ⟨⟨h1, fun h => h2 ⟨a, List.mem_cons_self, hk, h.symm⟩⟩, fun ⟨b, hb, k1, k2⟩ => h2 ⟨b, List.mem_cons_of_mem _ hb, k1, k2⟩⟩
        · rcases List.mem_cons.1 hb with rfl | hb
          · exact absurd hk h1
          · exact .inr ⟨b, hb, h1, h2⟩
    · have hm : x ∈ stepA l a ↔ x = a.f1 ∨ x ∈ l := by
        unfold stepA
        rw [if_neg hk, List.mem_cons]
      rw [hm]
      constructor
      · rintro (⟨h1 | h1, h2⟩ | ⟨b, hb, h1, h2⟩)
        · exact .inr ⟨a, List.mem_cons_self, hk, h1.symm⟩
        · refine .inl ⟨h1, ?_⟩
          rintro ⟨b, hb, k1, k2⟩
          rcases List.mem_cons.1 hb with rfl | hb
          · exact hk k1
          · exact h2 ⟨b, hb, k1, k2⟩
        · exact .inr ⟨b, List.mem_cons_of_mem _ hb, h1, h2⟩
      · rintro (⟨h1, h2⟩ | ⟨b, hb, h1, h2⟩)
        · exact .inl ⟨.inr h1, fun ⟨b, hb, k1, k2⟩ => h2 ⟨b, List.mem_cons_of_mem _ hb, k1, k2⟩⟩
        · rcases List.mem_cons.1 hb with rfl | hb
          · refine .inl ⟨.inl h2.symm, ?_⟩
            rintro ⟨c, hc, k1, k2⟩
            exact h c (List.mem_cons_of_mem _ hc) b List.mem_cons_self k1 h1 (k2.trans h2.symm)
          · exact .inr ⟨b, hb, h1, h2⟩
theorem stopsL_mem (us : List S32) (s : ByteArray) : s ∈ stopsL us ↔ s ∈ namesU us := by
  unfold stopsL stopA namesU
  rw [List.take_length]
  simp only [List.mem_append, List.mem_map, List.mem_filter, List.mem_reverse]
  constructor
  · rintro (⟨u, ⟨h1, _⟩, h3⟩ | h)
    · exact ⟨u, h1, h3⟩
    · have := (startL_inv us).sub s h
      unfold namesU at this
      exact List.mem_map.1 this
  · rintro ⟨u, h1, rfl⟩
    by_cases hm : u.f0 ∈ startL us
    · exact .inr hm
    · exact .inl ⟨u, ⟨h1, by simp [hm]⟩, rfl⟩
section
variable {old new : List S32} {run : List ByteArray}
theorem plan_act {a : S55} (h : a ∈ planL old new run) : (a.f0 = 1 ∧ a.f1 ∈ namesU old ∧ a.f1 ∈ run ∧ hasU new a.f1 = false) ∨ ((a.f0 = 2 ∧ a.f1 ∉ run ∨ a.f0 = 3) ∧ a.f1 ∈ startL new) := by
  unfold planL at h
  rcases List.mem_append.1 h with h | h
  · obtain ⟨s, hs, e⟩ := List.mem_filterMap.1 h
    unfold stopAct at e
    split at e
    · rename_i c
      obtain rfl := Option.some.inj e
      simp only [Bool.and_eq_true, decide_eq_true_eq, Bool.not_eq_true'] at c
      exact .inl ⟨rfl, (stopsL_mem old s).1 hs, c.1, c.2⟩
    · cases e
  · obtain ⟨s, hs, e⟩ := List.mem_filterMap.1 h
    unfold startAct at e
    split at e
    · split at e
      · obtain rfl := Option.some.inj e
        exact .inr ⟨.inr rfl, hs⟩
      · cases e
    · rename_i c
      obtain rfl := Option.some.inj e
      exact .inr ⟨.inl ⟨rfl, of_decide_eq_false (by simpa using c)⟩, hs⟩
theorem plan_stop {s : ByteArray} (h1 : s ∈ namesU old) (h2 : s ∈ run) (h3 : hasU new s = false) : (⟨1, s⟩ : S55) ∈ planL old new run := by
  unfold planL
  refine List.mem_append_left _ (List.mem_filterMap.2 ⟨s, (stopsL_mem old s).2 h1, ?_⟩)
  unfold stopAct
  rw [decide_eq_true h2, h3]; rfl
theorem plan_start {s : ByteArray} (h1 : s ∈ startL new) (h2 : s ∉ run) : (⟨2, s⟩ : S55) ∈ planL old new run := by
  unfold planL
  refine List.mem_append_right _ (List.mem_filterMap.2 ⟨s, h1, ?_⟩)
  unfold startAct
  rw [decide_eq_false h2]; rfl
theorem plan_apart {ac : List S55} (h : ∀ a ∈ ac, a ∈ planL old new run) : Apart ac := by
  intro a ha b hb h1 h2 e
  rcases plan_act (h a ha) with ⟨_, _, _, hn⟩ | ⟨hk | hk, _⟩
  · rcases plan_act (h b hb) with ⟨hk, _⟩ | ⟨_, hc⟩
    · exact h2 hk
    · rw [e, hasU_start hc] at hn; cases hn
  · rw [h1] at hk; exact absurd hk.1 (by decide)
  · rw [h1] at hk; exact absurd hk (by decide)
theorem plan_end (x : ByteArray) : x ∈ actsL run (planL old new run) ↔ (x ∈ run ∧ ¬ (x ∈ namesU old ∧ hasU new x = false)) ∨ x ∈ startL new := by
  rw [actsL_mem _ _ _ (plan_apart (fun _ h => h))]
  constructor
  · rintro (⟨h1, h2⟩ | ⟨a, ha, h1, rfl⟩)
    · exact .inl ⟨h1, fun ⟨k1, k2⟩ => h2 ⟨_, plan_stop k1 h1 k2, rfl, rfl⟩⟩
    · rcases plan_act ha with ⟨hk, _⟩ | ⟨_, hc⟩
      · exact absurd hk h1
      · exact .inr hc
  · have left : x ∈ run → ¬ (x ∈ namesU old ∧ hasU new x = false) → ¬ ∃ a ∈ planL old new run, a.f0 = 1 ∧ a.f1 = x := by
      rintro h1 h2 ⟨a, ha, k1, rfl⟩
      rcases plan_act ha with ⟨_, ho, _, hn⟩ | ⟨hk | hk, _⟩
      · exact h2 ⟨ho, hn⟩
      · rw [k1] at hk; exact absurd hk.1 (by decide)
      · rw [k1] at hk; exact absurd hk (by decide)
    rintro (⟨h1, h2⟩ | hc)
    · exact .inl ⟨h1, left h1 h2⟩
    · by_cases h1 : x ∈ run
      · exact .inl ⟨h1, left h1 (fun ⟨_, hn⟩ => by rw [hasU_start hc] at hn; cases hn)⟩
      · exact .inr ⟨_, plan_start hc h1, (by show (2 : Int) ≠ 1; decide), rfl⟩
theorem plan_part {n : Nat} {x : ByteArray} (h1 : x ∉ startL new) (h2 : ¬ (x ∈ namesU old ∧ hasU new x = false)) : x ∈ actsL run ((planL old new run).take n) ↔ x ∈ run := by
  have hs : ∀ a ∈ (planL old new run).take n, a ∈ planL old new run := fun a ha => List.mem_of_mem_take ha
  rw [actsL_mem _ _ _ (plan_apart hs)]
  constructor
  · rintro (⟨h, _⟩ | ⟨a, ha, k1, rfl⟩)
    · exact h
    · rcases plan_act (hs a ha) with ⟨hk, _⟩ | ⟨_, hc⟩
      · exact absurd hk k1
      · exact absurd hc h1
  · intro h
    refine .inl ⟨h, ?_⟩
    rintro ⟨a, ha, k1, rfl⟩
    rcases plan_act (hs a ha) with ⟨_, ho, _, hn⟩ | ⟨hk | hk, _⟩
    · exact h2 ⟨ho, hn⟩
    · rw [k1] at hk; exact absurd hk.1 (by decide)
    · rw [k1] at hk; exact absurd hk (by decide)
theorem plan_again {part : List ByteArray} (h : ∀ x, x ∉ startL new → ¬ (x ∈ namesU old ∧ hasU new x = false) → (x ∈ part ↔ x ∈ run)) : canonL (actsL part (planL old new part)) = canonL (actsL run (planL old new run)) := by
  refine canonL_congr (fun x => ?_)
  rw [plan_end, plan_end]
  by_cases hc : x ∈ startL new
  · simp [hc]
  · by_cases hn : x ∈ namesU old ∧ hasU new x = false
    · simp [hc, hn]
    · simp only [hc, or_false, hn, not_false_eq_true, and_true]
      exact h x hc hn
theorem plan_rest {e : List ByteArray} (h : ∀ x, x ∈ e ↔ (x ∈ run ∧ ¬ (x ∈ namesU old ∧ hasU new x = false)) ∨ x ∈ startL new) : ∀ a ∈ planL old new e, a.f0 = 3 := by
  intro a ha
  rcases plan_act ha with ⟨_, ho, hr, hn⟩ | ⟨hk | hk, hc⟩
  · rcases (h _).1 hr with ⟨_, h2⟩ | h2
    · exact absurd ⟨ho, hn⟩ h2
    · rw [hasU_start h2] at hn; cases hn
  · exact absurd ((h _).2 (.inr hc)) hk.2
  · exact hk
theorem planL_len : (planL old new run).length ≤ old.length + old.length + new.length := by
  have h1 := stopsL_len old
  have h2 := (startL_inv new).len
  have h3 := List.length_filterMap_le (stopAct new run) (stopsL old)
  have h4 := List.length_filterMap_le (startAct old new run) (startL new)
  unfold planL
  rw [List.length_append]
  omega
theorem plan_fine (hg : Good old) (hg2 : Good new) : ∀ a ∈ planL old new run, fine a.f1 := by
  intro a ha
  rcases plan_act ha with ⟨_, ho, _, _⟩ | ⟨_, hc⟩
  · exact good_has hg (decide_eq_true ho)
  · exact good_has hg2 (hasU_start hc)
end
theorem canonL_len (l : List ByteArray) : (canonL l).length ≤ l.length := nodup_sub_len (asc_nodup (asc_canonL l)) (fun x hx => (mem_canonL x l).1 hx)
theorem acts_some {run : List ByteArray} {ac : List S55} (h1 : run.length ≤ 2000) (h2 : ac.length ≤ 2000) (h3 : ∀ x ∈ run, fine x) (h4 : ∀ a ∈ ac, fine a.f1) : impl_ApplyActs.f run ac = some (canonL (actsL run ac)) := by
  unfold impl_ApplyActs.f
  rw [if_pos ⟨h1, h2⟩, if_pos ⟨h3, h4⟩]
end Go.Proofs.Ytnjmhlhlmokjnaa.G
namespace Go.Proofs.Ytnjmhlhlmokjnaa.G
open Go.RowKit Go.Proofs.YtnjmhlhlmokjnaaW.PrintWords Go.Proofs.YtnjmhlhlmokjnaaW.PrintLast
set_option linter.unusedVariables false
set_option linter.unusedSimpArgs false
theorem and255 (x : Int) : 0 ≤ Go.bits .and .i64 x 255 ∧ Go.bits .and .i64 x 255 ≤ 255 := by
  unfold Go.bits
  simp only [BitVec.toNat_and]
  have h : (BitVec.ofInt IntKind.i64.bits x).toNat &&& (BitVec.ofInt IntKind.i64.bits 255).toNat ≤ 255 := Nat.le_trans Nat.and_le_right (by decide)
  rw [IntKind.wrap_i64]
  omega
theorem byte_tot (s0 : List Int) (hl : s0.length ≤ 9223372036854775807) (s1 s2 : Int) (h1 : 0 ≤ s1) : ∃ v t1 t2, spec_l1Byte.f s0 s1 s2 = some (v, t1, t2) ∧ 0 ≤ v ∧ v ≤ 255 ∧ 0 ≤ t1 := by
  unfold spec_l1Byte.f
  by_cases h : s1 < (s0.length : Int)
  · rw [if_pos h, if_pos h1]
    exact ⟨_, _, _, rfl, (and255 _).1, (and255 _).2, by rw [wrap_id (by omega) (by omega)]; omega⟩
  · rw [if_neg h]
    exact ⟨_, _, _, rfl, (and255 _).1, (and255 _).2, h1⟩
theorem below_tot (s0 : List Int) (hl : s0.length ≤ 9223372036854775807) (s1 s2 : Int) (h1 : 0 ≤ s1) (a : Int) (ha : a ≤ 256) : ∃ v t1 t2, spec_l1Below.f s0 s1 s2 a = some (v, t1, t2) ∧ 0 ≤ v ∧ (0 < a → v < a) ∧ 0 ≤ t1 := by
  unfold spec_l1Below.f
  by_cases h : a ≤ 0
  · rw [if_pos h]
    exact ⟨_, _, _, rfl, Int.le_refl _, fun h' => absurd h (by omega), h1⟩
  · rw [if_neg h, if_pos ha]
    obtain ⟨v, t1, t2, e, v0, v1, p⟩ := byte_tot s0 hl s1 s2 h1
    rw [e]
    simp only [Option.bind_some]
    rw [if_neg (by omega)]
    exact ⟨_, _, _, rfl, Int.tmod_nonneg _ v0, fun _ => by rw [Int.tmod_eq_emod_of_nonneg v0]; exact Int.emod_lt_of_pos _ (by omega), p⟩
theorem once_tot (s0 : List Int) (hl : s0.length ≤ 9223372036854775807) (s1 s2 : Int) (h1 : 0 ≤ s1) (a : Int) (ha : a ≤ 256) : ∃ v t1 t2, spec_l1Once.f s0 s1 s2 a = some (v, t1, t2) ∧ 0 ≤ t1 := by
  unfold spec_l1Once.f
  obtain ⟨v, t1, t2, e, _, _, p⟩ := below_tot s0 hl s1 s2 h1 a ha
  rw [e]
  exact ⟨_, _, _, rfl, p⟩
theorem l2Int_small (a : Int) (h0 : 0 ≤ a) (h1 : a ≤ 9) : ∃ s : ByteArray, s.size = 1 ∧ Ev (fun k => spec_l2Int.f k a) s := by
  refine ⟨strOfNums [(wrap64 (48 + a)) % 256] ++ (⟨#[]⟩ : ByteArray), ?_, ?_⟩
  · rw [ByteArray.size_append, strOfNums_size]; rfl
  · refine Ev.step (g := fun k => spec_l2Int.f k a) (f := fun _ => some (strOfNums [(wrap64 (48 + a)) % 256] ++ (⟨#[]⟩ : ByteArray))) (fun k => ?_) (Ev.now _)
    unfold spec_l2Int.f
    rw [spec_l2Int.l0, if_neg (by omega)]
    simp only [Option.bind_some]
    rw [if_pos (by rw [strOfNums_size]; show 1 + 0 ≤ 9223372036854775807; decide)]
def Tot {α : Type} (g : Nat → Option (α × Int × Int)) (Q : α → Prop) : Prop := ∃ a t1 t2, Ev g (a, t1, t2) ∧ 0 ≤ t1 ∧ Q a
theorem Tot.step {α : Type} {g f : Nat → Option (α × Int × Int)} {Q : α → Prop} (h : ∀ k, g (k + 1) = f k) (k : Tot f Q) : Tot g Q := by
  obtain ⟨a, t1, t2, e, p, q⟩ := k
  exact ⟨a, t1, t2, Ev.step h e, p, q⟩
theorem Tot.congr {α : Type} {g f : Nat → Option (α × Int × Int)} {Q : α → Prop} (h : ∀ k, g k = f k) (k : Tot f Q) : Tot g Q := by
  obtain ⟨a, t1, t2, e, p, q⟩ := k
  exact ⟨a, t1, t2, Ev.congr h e, p, q⟩
theorem Tot.now {α : Type} {Q : α → Prop} (a : α) (t1 t2 : Int) (h : 0 ≤ t1) (q : Q a) : Tot (fun _ => some (a, t1, t2)) Q := ⟨a, t1, t2, Ev.now _, h, q⟩
theorem Tot.once {α : Type} {s0 : List Int} (hl : s0.length ≤ 9223372036854775807) {s1 s2 : Int} (h1 : 0 ≤ s1) {a : Int} (ha : a ≤ 256) {f : Nat → (Bool × Int × Int) → Option (α × Int × Int)} {Q : α → Prop}
    (k : ∀ b t1 t2, 0 ≤ t1 → Tot (fun n => f n (b, t1, t2)) Q) : Tot (fun n => (spec_l1Once.f s0 s1 s2 a).bind (f n)) Q := by
  obtain ⟨v, t1, t2, e, p⟩ := once_tot s0 hl s1 s2 h1 a ha
  refine Tot.congr (fun n => ?_) (k v t1 t2 p)
  rw [e]; rfl
theorem Tot.below {α : Type} {s0 : List Int} (hl : s0.length ≤ 9223372036854775807) {s1 s2 : Int} (h1 : 0 ≤ s1) {a : Int} (ha : a ≤ 256) {f : Nat → (Int × Int × Int) → Option (α × Int × Int)} {Q : α → Prop}
    (k : ∀ v t1 t2, 0 ≤ v → (0 < a → v < a) → 0 ≤ t1 → Tot (fun n => f n (v, t1, t2)) Q) : Tot (fun n => (spec_l1Below.f s0 s1 s2 a).bind (f n)) Q := by
  obtain ⟨v, t1, t2, e, v0, v1, p⟩ := below_tot s0 hl s1 s2 h1 a ha
  refine Tot.congr (fun n => ?_) (k v t1 t2 v0 v1 p)
  rw [e]; rfl
theorem Tot.bind {α β : Type} {g : Nat → Option β} {b : β} (h : Ev g b) {f : Nat → β → Option (α × Int × Int)} {Q : α → Prop} (k : Tot (fun n => f n b) Q) : Tot (fun n => (g n).bind (f n)) Q := by
  obtain ⟨a, t1, t2, e, p, q⟩ := k
  exact ⟨a, t1, t2, Ev.bind h e, p, q⟩
theorem Tot.ite {α : Type} {c : Prop} [Decidable c] {f g : Nat → Option (α × Int × Int)} {Q : α → Prop} (h1 : c → Tot f Q) (h2 : ¬ c → Tot g Q) : Tot (fun n => if c then f n else g n) Q := by
  by_cases h : c
  · exact Tot.congr (fun n => if_pos h) (h1 h)
  · exact Tot.congr (fun n => if_neg h) (h2 h)
theorem drawNames_loop (s0 : List Int) (hl : s0.length ≤ 9223372036854775807) (x4 : List ByteArray) (h4 : x4.length ≤ 100) (d : Nat) : ∀ (i : Nat) (x3 : List ByteArray) (s1 s2 : Int), i + d = x4.length → x3.length ≤ i → (∀ x ∈ x3, x ∈ x4) → 0 ≤ s1 →
    Tot (fun k => spec_l18DrawNames.l0 k x3 x4 (i : Int) s0 s1 s2) (fun r => r.length ≤ x4.length ∧ ∀ x ∈ r, x ∈ x4) := by
  induction d with
  | zero =>
    intro i x3 s1 s2 hi h3 hs h1
    exact Tot.step (f := fun _ => some (x3, s1, s2)) (fun k => by rw [spec_l18DrawNames.l0, if_neg (by omega)]) (Tot.now _ _ _ h1 ⟨by omega, hs⟩)
  | succ d ih =>
    intro i x3 s1 s2 hi h3 hs h1
    have hw : wrap64 ((i : Int) + 1) = ((i + 1 : Nat) : Int) := by rw [wrap_id (by omega) (by omega)]; omega
    refine Tot.step (fun k => by rw [spec_l18DrawNames.l0, if_pos (by omega), hw]) (Tot.once hl h1 (by omega) (fun b t1 t2 p => ?_))
    refine Tot.ite (fun hb => ?_) (fun hb => ih (i + 1) x3 t1 t2 (by omega) (by omega) hs p)
    refine Tot.ite (fun _ => Tot.ite (fun _ => ?_) (fun h => absurd h (by omega))) (fun h => absurd h (by omega))
    refine ih (i + 1) _ t1 t2 (by omega) (by simp; omega) (fun x hx => ?_) p
    rcases List.mem_append.1 hx with hx | hx
    · exact hs x hx
    · rw [List.mem_singleton.1 hx, rdOf_nat _ x4 i (by omega)]
      exact List.getElem_mem (by omega)
theorem drawNames_tot (s0 : List Int) (hl : s0.length ≤ 9223372036854775807) (s1 s2 : Int) (h1 : 0 ≤ s1) : Tot (fun k => spec_l18DrawNames.f k s0 s1 s2) (fun r => r.length ≤ 7 ∧ ∀ x ∈ r, x.size ≤ 2) := by
  obtain ⟨a, t1, t2, e, p, q1, q2⟩ := drawNames_loop s0 hl [(⟨#[97]⟩ : ByteArray), (⟨#[98]⟩ : ByteArray), (⟨#[99]⟩ : ByteArray), (⟨#[100]⟩ : ByteArray), (⟨#[101]⟩ : ByteArray), (⟨#[102]⟩ : ByteArray), (⟨#[122, 122]⟩ : ByteArray)] (by simp) 7 0 [] s1 s2 rfl (Nat.le_refl _) (fun x hx => by cases hx) h1
  refine ⟨a, t1, t2, e, p, q1, fun x hx => ?_⟩
  have := q2 x hx
  simp only [List.mem_cons, List.not_mem_nil, or_false] at this
  rcases this with rfl | rfl | rfl | rfl | rfl | rfl | rfl <;> decide
theorem new_loop (l0 : List Int) (hl : l0.length ≤ 9223372036854775807) (d : Nat) : ∀ (i : Nat) (x3 : Int), i + d = l0.length → ∃ s2, Ev (fun k => spec_l1New.l0 k l0 x3 (i : Int)) (l0, 0, s2) := by
  induction d with
  | zero =>
    intro i x3 hi
    exact ⟨x3, Ev.step (f := fun _ => some (l0, 0, x3)) (fun k => by rw [spec_l1New.l0, if_neg (by omega)]) (Ev.now _)⟩
  | succ d ih =>
    intro i x3 hi
    have hw : wrap64 ((i : Int) + 1) = ((i + 1 : Nat) : Int) := by rw [wrap_id (by omega) (by omega)]; omega
    obtain ⟨s2, h⟩ := ih (i + 1) (Go.bits .and .i64 (wrap64 ((wrap64 ((wrap64 (x3 * 139)) + (wrap64 (rd l0 (i : Int))))) + 13)) 1073741823) (by omega)
    exact ⟨s2, Ev.step (fun k => by rw [spec_l1New.l0, if_pos (by omega), if_pos (by omega), hw]) h⟩
theorem new_tot (l0 : List Int) (hl : l0.length ≤ 9223372036854775807) : ∃ s2, Ev (fun k => spec_l1New.f k l0) (l0, 0, s2) := new_loop l0 hl l0.length 0 _ (by omega)
theorem j4_tot (s0 : List Int) (hl : s0.length ≤ 9223372036854775807) (x3 : List S32) (h3 : x3.length ≤ 100) (b : Bool) (hb : b = true → 0 < x3.length) (s1 s2 : Int) (h1 : 0 ≤ s1) : Tot (fun k => spec_l18Draw.j4 k x3 b s0 s1 s2) (fun r => r.length = x3.length) := by
  refine Tot.step (fun k => by rw [spec_l18Draw.j4]) ?_
  refine Tot.ite (fun hb' => ?_) (fun _ => Tot.now _ _ _ h1 rfl)
  have hp := hb hb'
  refine Tot.below hl h1 (by omega) (fun v t1 t2 v0 v1 p => ?_)
  have hv := v1 (by omega)
  refine Tot.ite (fun _ => Tot.ite (fun _ => ?_) (fun h => absurd hv h)) (fun h => absurd v0 h)
  refine Tot.below hl p (by omega) (fun v' t1 t2 v0' v1' p => ?_)
  refine Tot.ite (fun _ => Tot.now _ _ _ p (by simp)) (fun _ => ?_)
  refine Tot.ite (fun _ => Tot.now _ _ _ p (by simp)) (fun _ => ?_)
  refine Tot.ite (fun _ => Tot.now _ _ _ p (by simp)) (fun _ => ?_)
  refine Tot.ite (fun _ => ?_) (fun _ => Tot.now _ _ _ p rfl)
  refine Tot.below hl p (by omega) (fun v'' t1 t2 v0'' v1'' p => ?_)
  have h2 := v1'' (by omega)
  have hw : wrap64 (4000 + v'') = 4000 + v'' := wrap_id (by omega) (by omega)
  refine Tot.ite (fun _ => Tot.ite (fun _ => Tot.now _ _ _ p (by simp)) (fun h => absurd h ?_)) (fun h => absurd h ?_)
  · simp only [hw]; omega
  · simp only [hw]; omega
theorem inner_tot (s0 : List Int) (hl : s0.length ≤ 9223372036854775807) (x4 : List ByteArray) (h4 : x4.length ≤ 100) (i : Nat) (hi : i < x4.length) (Q : List S32 → Prop)
    (next : ∀ (x3 : List S32) (t1 t2 : Int), x3.length ≤ i + 1 → 0 ≤ t1 → Tot (fun k => spec_l18Draw.l0 k x3 x4 ((i + 1 : Nat) : Int) s0 t1 t2) Q) (x3 : List S32) (h3 : x3.length ≤ i) (f0 f3 : ByteArray) (f4 : Bool) (d : Nat) :
    ∀ (j : Nat) (f1 f2 : List ByteArray) (s1 s2 : Int), j + d = x4.length → f1.length ≤ j → f2.length ≤ j → 0 ≤ s1 → Tot (fun k => spec_l18Draw.l1 k x3 x4 (i : Int) (j : Int) s0 s1 s2 f0 f1 f2 f3 f4) Q := by
  induction d with
  | zero =>
    intro j f1 f2 s1 s2 hj g1 g2 h1
    have hw : wrap64 ((i : Int) + 1) = ((i + 1 : Nat) : Int) := by rw [wrap_id (by omega) (by omega)]; omega
    refine Tot.step (fun k => by rw [spec_l18Draw.l1, if_neg (by omega), hw]) ?_
    exact Tot.ite (fun _ => next _ _ _ (by simp; omega) h1) (fun h => absurd h (by omega))
  | succ d ih =>
    intro j f1 f2 s1 s2 hj g1 g2 h1
    have hwj : wrap64 ((j : Int) + 1) = ((j + 1 : Nat) : Int) := by rw [wrap_id (by omega) (by omega)]; omega
    have third : ∀ (f1 : List ByteArray) (s1 s2 : Int), f1.length ≤ j + 1 → 0 ≤ s1 → Tot (fun k => spec_l18Draw.j3 k x3 x4 (i : Int) (j : Int) s0 s1 s2 f0 f1 f2 f3 f4) Q := by
      intro f1 s1 s2 g1 h1
      refine Tot.step (fun k => by rw [spec_l18Draw.j3, hwj]) (Tot.once hl h1 (by omega) (fun b t1 t2 p => ?_))
      have c0 : (0 : Int) ≤ (j : Int) := by omega
      have c1 : (j : Int) < (x4.length : Int) := by omega
      have c2 : f2.length < 8796093022208 := by omega
      simp only [if_pos c0, if_pos c1, if_pos c2]
      refine Tot.ite (fun _ => ?_) (fun _ => ?_)
      · refine Tot.ite (fun _ => ?_) (fun _ => ?_)
        · exact ih (j + 1) _ _ _ _ (by omega) g1 (by simp; omega) p
        · refine Tot.once hl p (by omega) (fun b t1 t2 p => ?_)
          refine Tot.ite (fun _ => ?_) (fun _ => ?_)
          · exact ih (j + 1) _ _ _ _ (by omega) g1 (by simp; omega) p
          · exact ih (j + 1) _ _ _ _ (by omega) g1 (by omega) p
      · exact ih (j + 1) _ _ _ _ (by omega) g1 (by omega) p
    have second : ∀ (b : Bool) (s1 s2 : Int), 0 ≤ s1 → Tot (fun k => spec_l18Draw.j2 k x3 x4 (i : Int) (j : Int) b s0 s1 s2 f0 f1 f2 f3 f4) Q := by
      intro b s1 s2 h1
      refine Tot.step (fun k => by rw [spec_l18Draw.j2]) ?_
      have c0 : (0 : Int) ≤ (j : Int) := by omega
      have c1 : (j : Int) < (x4.length : Int) := by omega
      have c2 : f1.length < 8796093022208 := by omega
      simp only [if_pos c0, if_pos c1, if_pos c2]
      refine Tot.ite (fun _ => ?_) (fun _ => ?_)
      · exact third _ _ _ (by simp; omega) h1
      · exact third _ _ _ (by omega) h1
    refine Tot.step (fun k => by rw [spec_l18Draw.l1, if_pos (by omega)]) (Tot.once hl h1 (by omega) (fun b t1 t2 p => ?_))
    refine Tot.ite (fun _ => Tot.ite (fun _ => second _ _ _ p) (fun _ => ?_)) (fun _ => second _ _ _ p)
    exact Tot.once hl p (by omega) (fun b t1 t2 p => second _ _ _ p)
theorem outer_tot (s0 : List Int) (hl : s0.length ≤ 9223372036854775807) (x4 : List ByteArray) (h4 : x4.length ≤ 100) (d : Nat) :
    ∀ (i : Nat) (x3 : List S32) (s1 s2 : Int), i + d = x4.length → x3.length ≤ i → 0 ≤ s1 → Tot (fun k => spec_l18Draw.l0 k x3 x4 (i : Int) s0 s1 s2) (fun r => r.length ≤ x4.length) := by
  induction d with
  | zero =>
    intro i x3 s1 s2 hi h3 h1
    refine Tot.step (fun k => by rw [spec_l18Draw.l0, if_neg (by omega)]) (Tot.once hl h1 (by omega) (fun b t1 t2 p => ?_))
    have fin : ∀ b, (b = true → 0 < x3.length) → Tot (fun k => spec_l18Draw.j4 k x3 b s0 t1 t2) (fun r => r.length ≤ x4.length) := fun b hb => by
      obtain ⟨a, u1, u2, e, p, q⟩ := j4_tot s0 hl x3 (by omega) b hb t1 t2 p
      exact ⟨a, u1, u2, e, p, by omega⟩
    exact Tot.ite (fun _ => fin _ (fun h => by have := of_decide_eq_true h; omega)) (fun _ => fin _ (fun h => by cases h))
  | succ d ih =>
    intro i x3 s1 s2 hi h3 h1
    have hw : wrap64 ((i : Int) + 1) = ((i + 1 : Nat) : Int) := by rw [wrap_id (by omega) (by omega)]; omega
    refine Tot.step (fun k => by rw [spec_l18Draw.l0, if_pos (by omega), hw]) (Tot.once hl h1 (by omega) (fun b t1 t2 p => ?_))
    refine Tot.ite (fun _ => ih (i + 1) x3 _ _ (by omega) (by omega) p) (fun _ => Tot.ite (fun _ => ?_) (fun h => absurd h (by omega)))
    refine Tot.below hl p (by omega) (fun v t1 t2 v0 v1 p => ?_)
    have hv := v1 (by omega)
    obtain ⟨s, hs, es⟩ := l2Int_small v v0 (by omega)
    refine Tot.bind es ?_
    refine Tot.ite (fun _ => ?_) (fun h => absurd h (by rw [hs]; omega))
    refine Tot.once hl p (by omega) (fun b t1 t2 p => ?_)
    exact inner_tot s0 hl x4 h4 i (by omega) _ (fun x3 t1 t2 h3 h1 => ih (i + 1) x3 t1 t2 (by omega) h3 h1) x3 h3 _ _ _ x4.length 0 [] [] t1 t2 (by omega) (by simp) (by simp) p
theorem draw_tot (s0 : List Int) (hl : s0.length ≤ 9223372036854775807) (s1 s2 : Int) (h1 : 0 ≤ s1) : Tot (fun k => spec_l18Draw.f k s0 s1 s2) (fun r => r.length ≤ 6) :=
  outer_tot s0 hl _ (by simp) 6 0 [] s1 s2 rfl (by simp) h1
end Go.Proofs.Ytnjmhlhlmokjnaa.G
namespace Go.Proofs.Ytnjmhlhlmokjnaa.Pure
open Go.RowKit Go.Proofs.Ytnjmhlhlmokjnaa.G Go.Proofs.YtnjmhlhlmokjnaaW.PrintWords Go.Proofs.YtnjmhlhlmokjnaaW.PrintLast
set_option linter.unusedVariables false
set_option linter.unusedSimpArgs false
theorem phas_loop (l : List ByteArray) (x : ByteArray) (hl : l.length ≤ 9223372036854775807) (d : Nat) : ∀ i : Nat, i + d = l.length → Ev (fun k => laws_has.l0 k l x (i : Int)) (decide (x ∈ l.drop i)) := by
  induction d with
  | zero =>
    intro i hi
    rw [List.drop_eq_nil_of_le (by omega)]
    exact Ev.step (f := fun _ => some false) (fun k => by rw [laws_has.l0, if_neg (by omega)]) (Ev.now _)
  | succ d ih =>
    intro i hi
    have hx := ih (i + 1) (by omega)
    have hw : wrap64 ((i : Int) + 1) = ((i + 1 : Nat) : Int) := by rw [wrap_id (by omega) (by omega)]; omega
    refine Ev.step (f := fun k => if l[i] = x then some true else laws_has.l0 k l x ((i + 1 : Nat) : Int)) (fun k => ?_) ?_
    · rw [laws_has.l0, hw, if_pos (by omega), if_pos (by omega), rdOf_nat _ l i (by omega)]
      simp only [toList_iff]
    · rw [mem_drop_step (by omega)]
      split
      · rename_i h
        rw [decide_eq_true h]
        exact Ev.now _
      · rename_i h
        rw [decide_eq_false h]
        exact hx
theorem phas_ev (l : List ByteArray) (x : ByteArray) (hl : l.length ≤ 9223372036854775807) : Ev (fun k => laws_has.f k l x) (decide (x ∈ l)) := phas_loop l x hl l.length 0 (by omega)
theorem punit_loop (us : List S32) (x : ByteArray) (hl : us.length ≤ 9223372036854775807) (d : Nat) : ∀ i : Nat, i + d = us.length → Ev (fun k => laws_unit.l0 k us x (i : Int)) (findFrom us x i d) := by
  induction d with
  | zero =>
    intro i hi
    exact Ev.step (f := fun _ => some (-1)) (fun k => by rw [laws_unit.l0, if_neg (by omega)]) (Ev.now _)
  | succ d ih =>
    intro i hi
    have hx := ih (i + 1) (by omega)
    have hw : wrap64 ((i : Int) + 1) = ((i + 1 : Nat) : Int) := by rw [wrap_id (by omega) (by omega)]; omega
    refine Ev.step (f := fun k => if (rd_T32 us (i : Int)).f0 = x then some (i : Int) else laws_unit.l0 k us x ((i + 1 : Nat) : Int)) (fun k => ?_) ?_
    · rw [laws_unit.l0, hw, if_pos (by omega), if_pos (by omega)]
      simp only [toList_iff]
    · unfold findFrom
      split
      · exact Ev.now _
      · exact hx
theorem punit_ev (us : List S32) (x : ByteArray) (hl : us.length ≤ 9223372036854775807) : Ev (fun k => laws_unit.f k us x) (findU us x) := punit_loop us x hl us.length 0 (by omega)
theorem same_loop (l : List ByteArray) (hl : l.length ≤ 9223372036854775807) (d : Nat) : ∀ i : Nat, i + d = l.length → Ev (fun k => laws_sameTexts.l0 k l l (i : Int)) true := by
  induction d with
  | zero =>
    intro i hi
    exact Ev.step (f := fun _ => some true) (fun k => by rw [laws_sameTexts.l0, if_neg (by omega)]) (Ev.now _)
  | succ d ih =>
    intro i hi
    have hw : wrap64 ((i : Int) + 1) = ((i + 1 : Nat) : Int) := by rw [wrap_id (by omega) (by omega)]; omega
    exact Ev.step (fun k => by rw [laws_sameTexts.l0, hw, if_pos (by omega), if_pos (by omega), if_pos (by omega), if_pos rfl]) (ih (i + 1) (by omega))
theorem same_ev (l : List ByteArray) (hl : l.length ≤ 9223372036854775807) : Ev (fun k => laws_sameTexts.f k l l) true := by
  refine Ev.congr (f := fun k => laws_sameTexts.l0 k l l 0) (fun k => ?_) (same_loop l hl l.length 0 (by omega))
  unfold laws_sameTexts.f
  rw [if_pos rfl]
theorem rest_loop (ac : List S55) (hl : ac.length ≤ 9223372036854775807) (h : ∀ a ∈ ac, a.f0 = 3) (d : Nat) : ∀ i : Nat, i + d = ac.length → Ev (fun k => laws_FnPlanReaches.l2 k ac (i : Int)) true := by
  induction d with
  | zero =>
    intro i hi
    refine Ev.step (f := fun _ => some true) (fun k => ?_) (Ev.now _)
    rw [laws_FnPlanReaches.l2, if_neg (by omega)]
    rfl
  | succ d ih =>
    intro i hi
    have hil : i < ac.length := by omega
    have hw : wrap64 ((i : Int) + 1) = ((i + 1 : Nat) : Int) := by rw [wrap_id (by omega) (by omega)]; omega
    exact Ev.step (fun k => by rw [laws_FnPlanReaches.l2, hw, if_pos (by omega), if_pos (by omega), rd55_nat ac i hil, if_pos (h _ (List.getElem_mem hil))]) (ih (i + 1) (by omega))
section
variable (more : List Int) (old new : List S32) (run : List ByteArray)
theorem reach_j4 (hg : G.Good old) (hg2 : G.Good new) (ho : unitsOkB old = true) (hn : unitsOkB new = true) (hr : run.length ≤ 7) (hf : ∀ x ∈ run, fine x) (n : Nat) (hn4 : n ≤ (planL old new run).length) :
    Ev (fun k => laws_FnPlanReaches.j4 k old new run (planL old new run) (canonL (actsL run (planL old new run))) (n : Int)) true := by
  have lold := hg.len
  have lnew := hg2.len
  have lp := planL_len (old := old) (new := new) (run := run)
  have hpf := plan_fine (run := run) hg hg2
  have htf : ∀ a ∈ (planL old new run).take n, fine a.f1 := fun a ha => hpf a (List.mem_of_mem_take ha)
  have ltk : ((planL old new run).take n).length ≤ 300 := by rw [List.length_take]; omega
  obtain ⟨part, hpart⟩ : ∃ p, p = canonL (actsL run ((planL old new run).take n)) := ⟨_, rfl⟩
  have lpart : part.length ≤ 307 := by
    have h1 := canonL_len (actsL run ((planL old new run).take n))
    have h2 := actsL_len ((planL old new run).take n) run
    rw [hpart]; omega
  have fpart : ∀ x ∈ part, fine x := fun x hx => by
    rw [hpart, mem_canonL] at hx
    exact actsL_fine _ _ hf htf x hx
  have e1 : impl_ApplyActs.f run ((planL old new run).take n) = some part := by rw [acts_some (by omega) (by omega) hf htf, hpart]
  have lp2 := planL_len (old := old) (new := new) (run := part)
  have e2 : impl_ApplyActs.f part (planL old new part) = some (canonL (actsL run (planL old new run))) := by
    rw [acts_some (by omega) (by omega) fpart (plan_fine hg hg2)]
    rw [plan_again (run := run) (fun x h1 h2 => by rw [hpart, mem_canonL]; exact plan_part h1 h2)]
  have p1 : impl_PlanUnits.f old new part = some (planL old new part) := by
    unfold impl_PlanUnits.f planF
    rw [ho, hn, decide_eq_true (show part.length ≤ 2000 by omega)]
    rfl
  have lend : (canonL (actsL run (planL old new run))).length ≤ 307 := by
    have h1 := canonL_len (actsL run (planL old new run))
    have h2 := actsL_len (planL old new run) run
    omega
  obtain ⟨e, he⟩ : ∃ e, e = canonL (actsL run (planL old new run)) := ⟨_, rfl⟩
  have hem : ∀ x, x ∈ e ↔ (x ∈ run ∧ ¬ (x ∈ namesU old ∧ hasU new x = false)) ∨ x ∈ startL new := fun x => by rw [he, mem_canonL, plan_end]
  rw [← he] at lend e2 ⊢
  have p2 : impl_PlanUnits.f old new e = some (planL old new e) := by
    unfold impl_PlanUnits.f planF
    rw [ho, hn, decide_eq_true (show e.length ≤ 2000 by omega)]
    rfl
  have lp3 := planL_len (old := old) (new := new) (run := e)
  refine Ev.step (fun k => by rw [laws_FnPlanReaches.j4, if_pos (by omega), if_pos (by omega), Int.toNat_natCast, e1]) ?_
  refine Ev.congr (f := fun k => (laws_sameTexts.f k e e).bind fun t580 => (if t580 = true then (laws_FnPlanReaches.l2 k (planL old new e) 0) else (some false))) (fun k => ?_) ?_
  · simp only [Option.bind_some, p1, e2, p2]
  refine Ev.bind (same_ev e (by omega)) (Ev.congr (fun k => if_pos rfl) ?_)
  exact rest_loop (planL old new e) (by omega) (plan_rest hem) (planL old new e).length 0 (by omega)
theorem reach_l1 (hg : G.Good old) (hg2 : G.Good new) (ho : unitsOkB old = true) (hn : unitsOkB new = true) (hr : run.length ≤ 7) (hf : ∀ x ∈ run, fine x) (e : List ByteArray) (he : e = canonL (actsL run (planL old new run))) (hle : e.length ≤ 307) (d : Nat) : ∀ i : Nat, i + d = e.length →
    Ev (fun k => laws_FnPlanReaches.l1 k more old new run (planL old new run) e (startL new) (i : Int)) true := by
  have lold := hg.len
  have lnew := hg2.len
  have lst := (startL_inv new).len
  have lp := planL_len (old := old) (new := new) (run := run)
  have hem : ∀ x, x ∈ e ↔ (x ∈ run ∧ ¬ (x ∈ namesU old ∧ hasU new x = false)) ∨ x ∈ startL new := fun x => by rw [he, mem_canonL, plan_end]
  induction d with
  | zero =>
    intro i hi
    have p : spec_PlanUnits.f old new run = some (planL old new run) := by
      unfold spec_PlanUnits.f planF
      rw [ho, hn, decide_eq_true (show run.length ≤ 2000 by omega)]
      rfl
    refine Ev.step (fun k => by rw [laws_FnPlanReaches.l1, if_neg (by omega), p, Option.bind_some, if_pos rfl]) ?_
    have hw : wrap64 (((planL old new run).length : Int) + 1) = (((planL old new run).length + 1 : Nat) : Int) := by rw [wrap_id (by omega) (by omega)]; omega
    by_cases hp : ((planL old new run).length : Int) > 0
    · have hm : (more.length : Int) % (((planL old new run).length + 1 : Nat) : Int) = ((more.length % ((planL old new run).length + 1) : Nat) : Int) := by omega
      have hlt : more.length % ((planL old new run).length + 1) < (planL old new run).length + 1 := Nat.mod_lt _ (by omega)
      refine Ev.congr (f := fun k => laws_FnPlanReaches.j4 k old new run (planL old new run) e ((more.length % ((planL old new run).length + 1) : Nat) : Int)) (fun k => ?_) ?_
      · rw [if_pos hp, hw, if_neg (by omega), hm]
      · rw [he]
        exact reach_j4 old new run hg hg2 ho hn hr hf _ (by omega)
    · refine Ev.congr (f := fun k => laws_FnPlanReaches.j4 k old new run (planL old new run) e ((0 : Nat) : Int)) (fun k => by rw [if_neg hp]; rfl) ?_
      rw [he]
      exact reach_j4 old new run hg hg2 ho hn hr hf 0 (Nat.zero_le _)
  | succ d ih =>
    intro i hi
    have hil : i < e.length := by omega
    have hw : wrap64 ((i : Int) + 1) = ((i + 1 : Nat) : Int) := by rw [wrap_id (by omega) (by omega)]; omega
    have hx := (hem e[i]).1 (List.getElem_mem hil)
    have next := ih (i + 1) (by omega)
    have tail : Ev (fun k => (laws_has.f k (startL new) e[i]).bind fun t557 => (if t557 = true then (laws_FnPlanReaches.l1 k more old new run (planL old new run) e (startL new) ((i + 1 : Nat) : Int)) else ((laws_has.f k run e[i]).bind fun t559 => (if t559 = true then (laws_FnPlanReaches.l1 k more old new run (planL old new run) e (startL new) ((i + 1 : Nat) : Int)) else (some false))))) true := by
      refine Ev.bind (phas_ev (startL new) e[i] (by omega)) ?_
      by_cases hc : e[i] ∈ startL new
      · rw [decide_eq_true hc]
        exact Ev.congr (fun k => if_pos rfl) next
      · rw [decide_eq_false hc]
        refine Ev.congr (fun k => if_neg (by decide)) (Ev.bind (phas_ev run e[i] (by omega)) ?_)
        have hr : e[i] ∈ run := (hx.resolve_right hc).1
        rw [decide_eq_true hr]
        exact Ev.congr (fun k => if_pos rfl) next
    refine Ev.step (fun k => by rw [laws_FnPlanReaches.l1, if_pos (by omega), if_pos (by omega), rdOf_nat _ e i hil, hw]) (Ev.bind (punit_ev new e[i] (by omega)) ?_)
    clear hw
    cases hh : hasU new e[i] with
    | false =>
      have hlt : findU new e[i] < 0 := of_decide_eq_true ((findU_lt new _).trans (by rw [hh]; rfl))
      have hno : hasU old e[i] = false := by
        cases ho' : hasU old e[i] with
        | false => rfl
        | true =>
          rcases hx with ⟨_, h⟩ | h
          · exact absurd ⟨of_decide_eq_true ho', hh⟩ h
          · rw [hasU_start h] at hh; cases hh
      have hge : ¬ findU old e[i] ≥ 0 := by rw [findU_ge, hno]; decide
      refine Ev.congr (fun k => if_pos hlt) (Ev.bind (punit_ev old e[i] (by omega)) (Ev.congr (fun k => if_neg hge) tail))
    | true =>
      have hlt : ¬ findU new e[i] < 0 := of_decide_eq_false ((findU_lt new _).trans (by rw [hh]; rfl))
      exact Ev.congr (fun k => if_neg hlt) tail
theorem reach_l0 (e : List ByteArray) (hle : e.length ≤ 307) (hls : (startL new).length ≤ 100) (p : List S55) (hs : ∀ x ∈ startL new, x ∈ e) (next : Ev (fun k => laws_FnPlanReaches.l1 k more old new run p e (startL new) 0) true) (d : Nat) : ∀ i : Nat, i + d = (startL new).length →
    Ev (fun k => laws_FnPlanReaches.l0 k more old new run p e (startL new) (i : Int)) true := by
  induction d with
  | zero =>
    intro i hi
    exact Ev.step (fun k => by rw [laws_FnPlanReaches.l0, if_neg (by omega)]) next
  | succ d ih =>
    intro i hi
    have hil : i < (startL new).length := by omega
    have hw : wrap64 ((i : Int) + 1) = ((i + 1 : Nat) : Int) := by rw [wrap_id (by omega) (by omega)]; omega
    refine Ev.step (fun k => by rw [laws_FnPlanReaches.l0, if_pos (by omega), if_pos (by omega), rdOf_nat _ (startL new) i hil, hw]) (Ev.bind (phas_ev e _ (by omega)) ?_)
    rw [decide_eq_true (hs _ (List.getElem_mem hil))]
    exact Ev.congr (fun k => if_pos rfl) (ih (i + 1) (by omega))
end
theorem FnPlanReaches : laws_FnPlanReaches.Pure := by
  intro l0 l1 hl hsz hwf hl1 hsz1 hwf1
  refine Ev.rounds ?_
  unfold maxLen at hl hl1
  have over : Ev (fun k => laws_FnPlanReaches.j0 k l0 l1 true) true := Ev.step (f := fun _ => some true) (fun k => by rw [laws_FnPlanReaches.j0, if_pos rfl]) (Ev.now _)
  unfold laws_FnPlanReaches.f laws_big.f
  by_cases hb : (l0.length : Int) > 1048576
  · refine Ev.congr (fun k => ?_) over
    simp only [Option.bind_some]
    rw [if_pos (decide_eq_true hb)]
  by_cases hb1 : (l1.length : Int) > 1048576
  · refine Ev.congr (fun k => ?_) over
    simp only [Option.bind_some]
    rw [if_neg (by simpa using hb), decide_eq_true hb1]
  refine Ev.congr (f := fun k => laws_FnPlanReaches.j0 k l0 l1 false) (fun k => ?_) ?_
  · simp only [Option.bind_some]
    rw [if_neg (by simpa using hb), decide_eq_false hb1]
  obtain ⟨c2, e1⟩ := new_tot l0 (by omega)
  obtain ⟨old, t1, t2, e2, p, hold⟩ := draw_tot l0 (by omega) 0 c2 (by omega)
  obtain ⟨new, u1, u2, e3, p2, hnew⟩ := draw_tot l0 (by omega) t1 t2 p
  obtain ⟨run, v1, v2, e4, _, hrun, hrf⟩ := drawNames_tot l0 (by omega) u1 u2 p2
  have hf : ∀ x ∈ run, fine x := fun x hx => by have := hrf x hx; unfold fine; omega
  have e : Ev (fun k => spec_DrawPlanUnits.f k l0) (old, new, run) := by
    unfold spec_DrawPlanUnits.f
    exact Ev.bind e1 (Ev.bind e2 (Ev.bind e3 (Ev.bind e4 (Ev.now _))))
  refine Ev.step (fun k => by rw [laws_FnPlanReaches.j0, if_neg (by decide)]) (Ev.bind e ?_)
  have none_ : Ev (fun k => laws_FnPlanReaches.j1 k l1 old new run [] true) true := by
    refine Ev.step (f := fun _ => some true) (fun k => ?_) (Ev.now _)
    rw [laws_FnPlanReaches.j1, if_pos rfl]
    rfl
  cases ho : unitsOkB old with
  | false =>
    refine Ev.congr (fun k => ?_) none_
    simp [spec_UnitsOk.f, impl_PlanUnits.f, planF, ho]
  | true =>
    cases hn : unitsOkB new with
    | false =>
      refine Ev.congr (fun k => ?_) none_
      simp [spec_UnitsOk.f, impl_PlanUnits.f, planF, ho, hn]
    | true =>
      have hg := good_of_ok ho
      have hg2 := good_of_ok hn
      have lst := (startL_inv new).len
      have lp := planL_len (old := old) (new := new) (run := run)
      have ha := acts_some (ac := planL old new run) (show run.length ≤ 2000 by omega) (by omega) hf (plan_fine hg hg2)
      have hle : (canonL (actsL run (planL old new run))).length ≤ 307 := by
        have h1 := canonL_len (actsL run (planL old new run))
        have h2 := actsL_len (planL old new run) run
        omega
      have so := specOrder_ev new
      rw [if_pos hn] at so
      refine Ev.congr (f := fun k => laws_FnPlanReaches.j1 k l1 old new run (planL old new run) false) (fun k => ?_) ?_
      · simp [spec_UnitsOk.f, impl_PlanUnits.f, planF, ho, hn, show run.length ≤ 2000 by omega]
      · refine Ev.step (f := fun k => (spec_StartOrder.f k new).bind fun bt546 => (laws_FnPlanReaches.l0 k l1 old new run (planL old new run) (canonL (actsL run (planL old new run))) bt546.1 0)) (fun k => ?_) ?_
        · rw [laws_FnPlanReaches.j1, if_neg (by decide), ha]
          rfl
        · refine Ev.bind so ?_
          refine reach_l0 l1 old new run _ hle (by omega) _ (fun x hx => by rw [mem_canonL, plan_end]; exact .inr hx) ?_ (startL new).length 0 (by omega)
          exact reach_l1 l1 old new run hg hg2 ho hn hrun hf _ rfl hle (canonL (actsL run (planL old new run))).length 0 (by omega)
end Go.Proofs.Ytnjmhlhlmokjnaa.Pure
