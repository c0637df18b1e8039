/-
  Part 2 of the texts of this claim: GSpecL10Read, XBytesPure, GStringsliteHasPrefix, GStringsHasPrefix, XImplRead, XRead41, XReadText, GSpecL10Same, XReadDelta, GLawsMarkByteS, GLawsHeldByteS, GLawsHeldStepS, GLawsEqByteS.
-/
import Derived.Lib.Strings
import Derived.Lib.ConvBytes
import Derived.Test.YthofgkmfllccnaaRd1
namespace Go.Proofs.Ythofgkmfllccnaa.G
open Go.RowKit Go.Proofs.YthofgkmfllccnaaW.PrintWords Go.Proofs.YthofgkmfllccnaaW.PrintLast Go.Proofs.YthofgkmfllccnaaW.PrintMore
attribute [local go_sem] max2_int min2_int max_two min_two max_three min_three max_four min_four
set_option linter.unusedVariables false
set_option linter.unusedSimpArgs false
def IsS41 (w0 W : World) (g : Nat) (f0 : List Int) (f1 : Int) (f2 : Bool) : Prop := ∃ A0 c0, W.heap[g]? = some (.cells #[.slice A0 f0.length c0, .int .i64 f1, .bool f2] 41 (0, 0)) ∧ w0.heap.size ≤ g ∧ Kd.C (Kd.int .u8) w0 A0 f0.length f0
theorem IsS41.grown {w0 W : World} {g : Nat} {f0 : List Int} {f1 : Int} {f2 : Bool} {W1 : World} {row : Option Nat} (h : IsS41 w0 W g f0 f1 f2) (hw : W.grownBy W1 row) (hne : some g ≠ row) : IsS41 w0 W1 g f0 f1 f2 := by
  obtain ⟨A0, c0, hb, hg, hr0⟩ := h
  exact ⟨A0, c0, blk_grown hb hw hne, hg, hr0⟩
theorem IsS41.fresh {w0 W : World} {g : Nat} {f0 : List Int} {f1 : Int} {f2 : Bool} (h : IsS41 w0 W g f0 f1 f2) : ∀ k, W.heap.size ≤ k → k ≠ g := by
  obtain ⟨A0, c0, hb, hg, hr0⟩ := h
  exact Kd.freshB hb
theorem IsS41.kept {w0 W : World} {g : Nat} {f0 : List Int} {f1 : Int} {f2 : Bool} {W1 : World} {S : Nat → Prop} (h : IsS41 w0 W g f0 f1 f2) (hk : Kept W W1 S) (hne : ¬ S g) : IsS41 w0 W1 g f0 f1 f2 := by
  obtain ⟨A0, c0, hb, hg, hr0⟩ := h
  exact ⟨A0, c0, blk_kept hb hk hne, hg, hr0⟩
theorem IsS41.below {w0 W : World} {g : Nat} {f0 : List Int} {f1 : Int} {f2 : Bool} {W1 : World} (h : IsS41 w0 W g f0 f1 f2) (hw : Below W.heap.size W W1) : IsS41 w0 W1 g f0 f1 f2 := h.grown (grown_of_below hw none) (by simp)
theorem IsS41.alloc {w0 W : World} {g : Nat} {f0 : List Int} {f1 : Int} {f2 : Bool} (h : IsS41 w0 W g f0 f1 f2) (o : Obj) : IsS41 w0 (W.alloc o) g f0 f1 f2 := h.below (below_alloc (Below.refl _ _) o)
theorem IsS41.drewN {w0 W : World} {g : Nat} {f0 : List Int} {f1 : Int} {f2 : Bool} (h : IsS41 w0 W g f0 f1 f2) (m : Nat) : IsS41 w0 (W.drewN m) g f0 f1 f2 := h
theorem IsS41.drew {w0 W : World} {g : Nat} {f0 : List Int} {f1 : Int} {f2 : Bool} (h : IsS41 w0 W g f0 f1 f2) : IsS41 w0 W.drew g f0 f1 f2 := h
theorem IsS41.at_ {w0 W : World} {g : Nat} {f0 : List Int} {f1 : Int} {f2 : Bool} {w' : World} {m : Nat} (hq : W.drewN m = w') (h : IsS41 w0 W g f0 f1 f2) : IsS41 w0 w' g f0 f1 f2 := by subst hq; exact IsS41.drewN h m
theorem IsS41.apart {w0 W : World} {g : Nat} {f0 : List Int} {f1 : Int} {f2 : Bool} {α : Type} {d : Kd α} {e : Nat} {base : Nat} {ok : Nat → Prop} {v : Value} {xs : List α} (h : IsS41 w0 W g f0 f1 f2) (ho : d.R e W base ok v xs) (ht : ∀ q, q ∈ e :: d.E → q ≠ 41) : d.R e W base (fun k => ok k ∧ k ≠ g) v xs := by
  obtain ⟨A0, c0, hb, hg, hr0⟩ := h
  exact Kd.R_types ho hb ht
theorem IsS41.own_ne {w0 W : World} {g : Nat} {f0 : List Int} {f1 : Int} {f2 : Bool} {α : Type} {d : Kd α} {e : Nat} {base : Nat} {ok : Nat → Prop} {v : Value} {xs : List α} (h : IsS41 w0 W g f0 f1 f2) (ho : d.R e W base ok v xs) (ht : e ≠ 41) : some g ≠ v.ownBlock := by
  obtain ⟨A0, c0, hb, hg, hr0⟩ := h
  exact Kd.R_ne ho hb ht
theorem IsS41.lt {w0 W : World} {g : Nat} {f0 : List Int} {f1 : Int} {f2 : Bool} (h : IsS41 w0 W g f0 f1 f2) : g < W.heap.size := by
  obtain ⟨A0, c0, hb, hg, hr0⟩ := h
  exact blk_lt hb
theorem IsS41.ge {w0 W : World} {g : Nat} {f0 : List Int} {f1 : Int} {f2 : Bool} (h : IsS41 w0 W g f0 f1 f2) : w0.heap.size ≤ g := by
  obtain ⟨A0, c0, hb, hg, hr0⟩ := h
  exact hg
theorem cellS41_0 {W : World} {g : Nat} {A0 : Option Addr} {c0 : Nat} {f0 : List Int} {f1 : Int} {f2 : Bool} (h : W.heap[g]? = some (.cells #[.slice A0 f0.length c0, .int .i64 f1, .bool f2] 41 (0, 0))) : W.cell? ⟨g, 0, none⟩ = some (.slice A0 f0.length c0) := (blk_cell h 0).trans rfl
theorem cellS41_1 {W : World} {g : Nat} {A0 : Option Addr} {c0 : Nat} {f0 : List Int} {f1 : Int} {f2 : Bool} (h : W.heap[g]? = some (.cells #[.slice A0 f0.length c0, .int .i64 f1, .bool f2] 41 (0, 0))) : W.cell? ⟨g, 1, none⟩ = some (.int .i64 f1) := (blk_cell h 1).trans rfl
theorem IsS41.set_1 {w0 W : World} {g : Nat} {f0 : List Int} {f1 : Int} {f2 : Bool} (h : IsS41 w0 W g f0 f1 f2) (x : Int) : IsS41 w0 (W.setCell ⟨g, 1, none⟩ (.int .i64 x)) g f0 x f2 := by
  obtain ⟨A0, c0, hb, hg, hr0⟩ := h
  exact ⟨A0, c0, by simpa using blk_set hb 1 (.int .i64 x), hg, hr0⟩
theorem cellS41_2 {W : World} {g : Nat} {A0 : Option Addr} {c0 : Nat} {f0 : List Int} {f1 : Int} {f2 : Bool} (h : W.heap[g]? = some (.cells #[.slice A0 f0.length c0, .int .i64 f1, .bool f2] 41 (0, 0))) : W.cell? ⟨g, 2, none⟩ = some (.bool f2) := (blk_cell h 2).trans rfl
theorem IsS41.set_2 {w0 W : World} {g : Nat} {f0 : List Int} {f1 : Int} {f2 : Bool} (h : IsS41 w0 W g f0 f1 f2) (x : Bool) : IsS41 w0 (W.setCell ⟨g, 2, none⟩ (.bool x)) g f0 f1 x := by
  obtain ⟨A0, c0, hb, hg, hr0⟩ := h
  exact ⟨A0, c0, by simpa using blk_set hb 2 (.bool x), hg, hr0⟩
theorem IsS41.new (w0 W : World) (A0 : Option Addr) (c0 : Nat) (f0 : List Int) (f1 : Int) (f2 : Bool) (hB : Below w0.heap.size w0 W) (hr0 : Kd.C (Kd.int .u8) w0 A0 f0.length f0) : IsS41 w0 (W.alloc (.cells #[.slice A0 f0.length c0, .int .i64 f1, .bool f2] 41)) W.heap.size f0 f1 f2 := ⟨A0, c0, by simpa using heap_alloc_new W _, hB.size, hr0⟩
def spec_l10Read.l0 : Nat → Int → Int → List Int → Int → Bool → Option (Int × Int × Bool)
  | 0, _, _, _, _, _ => none
  | k + 1, x3, x4, x1000, x1001, x1002 => if x4 < 28 then (if x1001 ≥ (x1000.length : Int) then (some (0, x1001, true)) else (if 0 ≤ x1001 then (if x1001 < (x1000.length : Int) then (if 0 ≤ x4 then (if (rd x1000 x1001) < 128 then (some (wrap64 (x3 + (shl .i64 (wrap64 (Go.bits .and .u8 (rd x1000 x1001) 127)) x4)), wrap64 (x1001 + 1), x1002)) else (spec_l10Read.l0 k (wrap64 (x3 + (shl .i64 (wrap64 (Go.bits .and .u8 (rd x1000 x1001) 127)) x4))) (IntKind.u64.wrap (x4 + 7)) x1000 (wrap64 (x1001 + 1)) x1002)) else (none)) else (none)) else (none))) else (some (0, x1001, true))
def spec_l10Read.f (k : Nat) (s0_0 : List Int) (s0_1 : Int) (s0_2 : Bool) : Option (Int × Int × Bool) := spec_l10Read.l0 k 0 0 s0_0 s0_1 s0_2
end Go.Proofs.Ythofgkmfllccnaa.G
namespace Go.Proofs.Ythofgkmfllccnaa.G
open Go.RowKit Go.Proofs.YthofgkmfllccnaaW.PrintWords Go.Proofs.YthofgkmfllccnaaW.PrintLast Go.Proofs.YthofgkmfllccnaaW.PrintMore
set_option linter.unusedVariables false
set_option linter.unusedSimpArgs false
theorem wrap_id {i : Int} (h0 : -9223372036854775808 ≤ i) (h1 : i ≤ 9223372036854775807) : wrap64 i = i := by
  unfold wrap64
  omega
theorem wrap_up (i d n : Nat) (hn : n ≤ 9223372036854775807) (h : i + (d + 1) = n) : wrap64 ((i : Int) + 1) = ((i + 1 : Nat) : Int) := by
  rw [wrap_id (by omega) (by omega)]; omega
theorem num_len_le : ∀ (m n : Nat), n ≤ m → (num n).length ≤ n + 1
  | 0, n, h => by
    obtain rfl : n = 0 := by omega
    rw [num_lt (by omega)]; simp
  | m + 1, n, h => by
    by_cases hn : 128 ≤ n
    · rw [num_ge hn, List.length_cons]
      have := num_len_le m (n / 128) (by omega)
      omega
    · rw [num_lt (by omega)]; simp
theorem l10num_ev : ∀ (m : Nat) (xs : List Int) (n : Nat), n ≤ m → xs.length + n ≤ 70368744177664 → Ev (fun k => spec_l10Num.l0 k xs (n : Int)) (xs ++ num n)
  | 0, xs, n, h, hl => by
    obtain rfl : n = 0 := by omega
    refine Ev.step (f := fun _ => some (xs ++ num 0)) (fun k => ?_) (Ev.now _)
    rw [spec_l10Num.l0, if_neg (by omega), if_pos (by omega), num_lt (by omega)]
    rfl
  | m + 1, xs, n, h, hl => by
    by_cases hn : 128 ≤ n
    · have e1 : Int.tmod (n : Int) 128 = (n : Int) % 128 := Int.tmod_eq_emod_of_nonneg (by omega)
      have e2 : Int.tdiv (n : Int) 128 = (n : Int) / 128 := Int.tdiv_eq_ediv_of_nonneg (by omega)
      have e3 : wrap64 ((n : Int) % 128 + 128) % 256 = ((n % 128 + 128 : Nat) : Int) := by rw [wrap_id (by omega) (by omega)]; omega
      have e4 : wrap64 ((n : Int) / 128) = ((n / 128 : Nat) : Int) := by rw [wrap_id (by omega) (by omega)]; omega
      have ih := l10num_ev m (xs ++ [((n % 128 + 128 : Nat) : Int)]) (n / 128) (by omega) (by rw [List.length_append, List.length_singleton]; omega)
      rw [List.append_assoc, List.singleton_append] at ih
      rw [num_ge hn]
      refine Ev.step (fun k => ?_) ih
      rw [spec_l10Num.l0, if_pos (by omega), if_pos (by omega), e1, e2, e3, e4]
    · refine Ev.step (f := fun _ => some (xs ++ num n)) (fun k => ?_) (Ev.now _)
      have e : (n : Int) % 256 = (n : Int) := by omega
      rw [spec_l10Num.l0, if_neg (by omega), if_pos (by omega), num_lt (by omega), e]
theorem num_ev (xs : List Int) (z : Int) (h0 : 0 ≤ z) (hl : xs.length + z.toNat ≤ 70368744177664) : Ev (fun k => spec_l10Num.f k xs z) (xs ++ num z.toNat) := by
  obtain ⟨n, rfl⟩ := Int.eq_ofNat_of_zero_le h0
  exact l10num_ev n xs n (Nat.le_refl _) (by simpa using hl)
theorem okS_ev (s : S43) : spec_l14StepOk.f s.f0 s.f1 s.f2 s.f3 = some (okS s) := by
  unfold spec_l14StepOk.f okS
  by_cases h1 : s.f0 = 1
  · rw [if_pos h1, if_pos h1]
    by_cases a1 : s.f2 ≥ 1
    · rw [if_pos a1]
      by_cases a2 : s.f2 ≤ 268435455
      · rw [if_pos a2]
        by_cases a3 : s.f1 ≥ 0
        · rw [if_pos a3]
          by_cases a4 : s.f1 ≤ 268435455
          · rw [if_pos a4, decide_eq_true (show 1 ≤ s.f2 from a1), decide_eq_true a2, decide_eq_true (show 0 ≤ s.f1 from a3), decide_eq_true a4]
            congr 1
            rw [Bool.eq_iff_iff]
            simp
          · rw [if_neg a4, decide_eq_false a4]; simp
        · rw [if_neg a3, decide_eq_false (show ¬ 0 ≤ s.f1 from a3)]; simp
      · rw [if_neg a2, decide_eq_false a2]; simp
    · rw [if_neg a1, decide_eq_false (show ¬ 1 ≤ s.f2 from a1)]; simp
  · rw [if_neg h1, if_neg h1]
    by_cases a1 : s.f0 = 2
    · rw [if_pos a1]
      by_cases a2 : s.f1 = 0
      · rw [if_pos a2]
        by_cases a3 : s.f2 = 0
        · rw [if_pos a3, decide_eq_true a1, decide_eq_true a2, decide_eq_true a3]
          congr 1
          rw [Bool.eq_iff_iff]
          simp
        · rw [if_neg a3, decide_eq_false a3]; simp
      · rw [if_neg a2, decide_eq_false a2]; simp
    · rw [if_neg a1, decide_eq_false a1]; simp
theorem encS_len {s : S43} (h : okS s = true) (hl : s.f3.length ≤ 1048576) : (encS s).length ≤ 536870920 := by
  unfold okS at h
  unfold encS
  split at h
  · rename_i h1
    simp only [Bool.and_eq_true, decide_eq_true_eq] at h
    rw [if_pos h1, List.length_cons, List.length_append]
    have a := num_len_le s.f1.toNat s.f1.toNat (Nat.le_refl _)
    have b := num_len_le s.f2.toNat s.f2.toNat (Nat.le_refl _)
    omega
  · rename_i h1
    rw [if_neg h1, List.length_cons, List.length_append]
    have a := num_len_le s.f3.length s.f3.length (Nat.le_refl _)
    omega
theorem rd_T43_nat (l : List S43) (i : Nat) (h : i < l.length) : rd_T43 l (i : Int) = l[i] := by
  unfold rd_T43
  rw [Int.toNat_natCast, List.getD_eq_getElem?_getD, List.getElem?_eq_getElem h]
  rfl
theorem dbytes_loop (ds : List S43) (hd : ds.length ≤ 10000) (hs : ∀ s ∈ ds, s.f3.length ≤ 1048576) (d : Nat) : ∀ (i : Nat) (acc : List Int), i + d = ds.length → acc.length ≤ 4 + i * 536870920 →
    Ev (fun k => spec_DeltaBytes.l0 k ds acc (i : Int)) (if (ds.drop i).all okS then acc ++ (ds.drop i).flatMap encS else []) := by
  induction d with
  | zero =>
    intro i acc hi ha
    rw [List.drop_eq_nil_of_le (by omega)]
    simp only [List.all_nil, if_true, List.flatMap_nil, List.append_nil]
    exact Ev.step (f := fun _ => some acc) (fun k => by rw [spec_DeltaBytes.l0, if_neg (by omega)]) (Ev.now _)
  | succ d ih =>
    intro i acc hi ha
    have hil : i < ds.length := by omega
    have hw := wrap_up i d ds.length (by omega) hi
    obtain ⟨s, hse⟩ : ∃ s, s = ds[i] := ⟨_, rfl⟩
    have hsm : s.f3.length ≤ 1048576 := hs s (by rw [hse]; exact List.getElem_mem hil)
    have hdr : ds.drop i = s :: ds.drop (i + 1) := by rw [List.drop_eq_getElem_cons hil, hse]
    rw [hdr, List.all_cons, List.flatMap_cons]
    cases ho : okS s with
    | false =>
      simp only [Bool.false_and, if_neg (show ¬ (false = true) by decide)]
      refine Ev.step (f := fun _ => some []) (fun k => ?_) (Ev.now _)
      rw [spec_DeltaBytes.l0, if_pos (by omega), if_pos (by omega), rd_T43_nat ds i hil, ← hse, okS_ev, Option.bind_some, ho, if_neg (by decide)]
    | true =>
      have hel := encS_len ho hsm
      simp only [Bool.true_and]
      have next := ih (i + 1) (acc ++ encS s) (by omega) (by rw [List.length_append]; omega)
      rw [List.append_assoc] at next
      by_cases h1 : s.f0 = 1
      · have hok := ho
        unfold okS at hok
        rw [if_pos h1] at hok
        simp only [Bool.and_eq_true, decide_eq_true_eq] at hok
        have hen : encS s = [s.f0 % 256] ++ (num s.f1.toNat ++ num s.f2.toNat) := by unfold encS; rw [if_pos h1]; rfl
        rw [hen] at next ⊢
        have l1 := num_len_le s.f1.toNat s.f1.toNat (Nat.le_refl _)
        have v1 := num_ev (acc ++ [s.f0 % 256]) s.f1 (by omega) (by rw [List.length_append, List.length_singleton]; omega)
        have v2 := num_ev ((acc ++ [s.f0 % 256]) ++ num s.f1.toNat) s.f2 (by omega) (by rw [List.length_append, List.length_append, List.length_singleton]; omega)
        rw [show acc ++ ([s.f0 % 256] ++ (num s.f1.toNat ++ num s.f2.toNat)) = ((acc ++ [s.f0 % 256]) ++ num s.f1.toNat) ++ num s.f2.toNat by simp only [List.append_assoc]] at next
        refine Ev.step (fun k => ?_) (Ev.bind (f := fun k t => (spec_l10Num.f k t s.f2).bind fun t' => spec_DeltaBytes.l0 k ds t' ((i + 1 : Nat) : Int)) v1 (Ev.bind (f := fun k t' => spec_DeltaBytes.l0 k ds t' ((i + 1 : Nat) : Int)) v2 next))
        rw [spec_DeltaBytes.l0, if_pos (by omega), if_pos (by omega), rd_T43_nat ds i hil, ← hse, okS_ev, Option.bind_some, ho, if_pos rfl, if_pos (by omega), Option.bind_some, if_pos h1, hw]
      · have hen : encS s = [s.f0 % 256] ++ (num s.f3.length ++ s.f3) := by unfold encS; rw [if_neg h1]; rfl
        rw [hen] at next ⊢
        have l1 := num_len_le s.f3.length s.f3.length (Nat.le_refl _)
        have v1 := num_ev (acc ++ [s.f0 % 256]) (s.f3.length : Int) (by omega) (by rw [List.length_append, List.length_singleton]; omega)
        rw [Int.toNat_natCast] at v1
        refine Ev.step (fun k => ?_) (Ev.bind (f := fun k t => if t.length + s.f3.length < 140737488355328 then spec_DeltaBytes.l0 k ds (t ++ s.f3) (wrap64 ((i : Int) + 1)) else none) v1 (Ev.congr (fun k => ?_) next))
        · rw [spec_DeltaBytes.l0, if_pos (by omega), if_pos (by omega), rd_T43_nat ds i hil, ← hse, okS_ev, Option.bind_some, ho, if_pos rfl, if_pos (by omega), Option.bind_some, if_neg h1]
        · rw [if_pos (by simp only [List.length_append, List.length_singleton]; omega), hw]
          simp only [List.append_assoc]
theorem dbytes_ev (ds : List S43) (hs : ∀ s ∈ ds, s.f3.length ≤ 1048576) : Ev (fun k => spec_DeltaBytes.f k ds) (dbytes ds) := by
  by_cases hd : ds.length ≤ 10000
  · have h := dbytes_loop ds hd hs ds.length 0 hdr (by omega) (by decide)
    rw [List.drop_zero] at h
    unfold dbytes
    rw [decide_eq_true hd, Bool.true_and]
    refine Ev.congr (fun k => ?_) h
    unfold spec_DeltaBytes.f
    rw [if_neg (by omega)]
    rfl
  · unfold dbytes
    rw [decide_eq_false hd, Bool.false_and]
    refine Ev.congr (f := fun _ => some []) (fun k => ?_) (Ev.now _)
    unfold spec_DeltaBytes.f
    rw [if_pos (by omega)]
theorem shl_seven {t y : Nat} (ht : t < 4) (hy : y < 128) : shl .i64 (y : Int) ((7 * t : Nat) : Int) = ((128 ^ t * y : Nat) : Int) := by
  have key : ∀ (p : Nat) (z : Int), p ≤ 2097152 → (2 : Int) ^ min z.toNat IntKind.i64.bits = (p : Int) → shl .i64 (y : Int) z = ((p * y : Nat) : Int) := by
    intro p z hp hz
    have hm : p * y ≤ 2097152 * 128 := Nat.mul_le_mul hp (by omega)
    unfold shl
    rw [hz, IntKind.wrap_i64]
    have e : (y : Int) * (p : Int) = ((p * y : Nat) : Int) := by rw [Int.mul_comm]; simp
    rw [e]
    omega
  match t, ht with
  | 0, _ => exact key 1 _ (by decide) (by decide)
  | 1, _ => exact key 128 _ (by decide) (by decide)
  | 2, _ => exact key 16384 _ (by decide) (by decide)
  | 3, _ => exact key 2097152 _ (by decide) (by decide)
theorem wrap_nat {n : Nat} (h : n ≤ 4611686018427387904) : wrap64 (n : Int) = (n : Int) := wrap_id (by omega) (by omega)
theorem wrap_add {n k : Nat} (h : n + k ≤ 4611686018427387904) : wrap64 ((n : Int) + (k : Int)) = ((n + k : Nat) : Int) := (wrap_id (by omega) (by omega)).trans (by omega)
theorem wrap_one {n : Nat} (h : n + 1 ≤ 4611686018427387904) : wrap64 ((n : Int) + 1) = ((n + 1 : Nat) : Int) := (wrap_id (by omega) (by omega)).trans (by omega)
theorem mask_nat {y : Nat} (h : (y : Int) ≤ 255) : bits .and .u8 (y : Int) 127 = ((y % 128 : Nat) : Int) := (mask127 (by omega) h).trans (by omega)
theorem wrap_seven {t : Nat} (h : t < 4) : IntKind.u64.wrap (((7 * t : Nat) : Int) + 7) = ((7 * (t + 1) : Nat) : Int) := by
  have : IntKind.u64.wrap (((7 * t : Nat) : Int) + 7) = (((7 * t : Nat) : Int) + 7) % 18446744073709551616 := by simp [IntKind.wrap, IntKind.bits, IntKind.signed]
  rw [this]
  omega
set_option maxHeartbeats 1000000 in
theorem l10_loop {b : List Int} (hb : Bytes b) (hl : b.length ≤ 1048576) (bad : Bool) (i : Nat) (d : Nat) : ∀ (t m i' : Nat), t + d = 4 → m < 128 ^ t → Stands b i t m i' → i ≤ i' → i' ≤ b.length →
    ∃ (V I : Nat) (B : Bool), Ev (fun k => spec_l10Read.l0 k (m : Int) ((7 * t : Nat) : Int) b (i' : Int) bad) ((V : Int), (I : Int), B) ∧ i ≤ I ∧ I ≤ b.length ∧ V < 268435456 ∧ (rv b 4 true i = none → B = true) ∧ ∀ p, rv b 4 true i = some p → V = p.1 ∧ I = p.2.1 ∧ B = bad := by
  induction d with
  | zero =>
    intro t m i' ht hm hs hi hil
    obtain rfl : t = 4 := by omega
    refine ⟨0, i', true, Ev.step (f := fun _ => some (0, (i' : Int), true)) (fun k => ?_) (Ev.now _), hi, hil, by omega, fun _ => rfl, fun p hp => ?_⟩
    · rw [spec_l10Read.l0, if_neg (by omega)]
    · rw [hs.end_] at hp; cases hp
  | succ d ih =>
    intro t m i' ht hm hs hi hil
    by_cases hlt : i' < b.length
    · have hx : b[i']? = some b[i'] := List.getElem?_eq_getElem hlt
      have hxb := hb _ (List.getElem_mem hlt)
      obtain ⟨y, hy⟩ : ∃ y : Nat, b[i'] = y := ⟨b[i'].toNat, by omega⟩
      rw [hy] at hx hxb
      have hrd : rd b (i' : Int) = (y : Int) := by
        unfold rd
        rw [Int.toNat_natCast, List.getD_eq_getElem?_getD, hx]
        rfl
      have hp : 128 ^ t ≤ 2097152 := by
        have h3 : t ≤ 3 := by omega
        have := Nat.pow_le_pow_right (show 0 < 128 by decide) h3
        omega
      have hmul : 128 ^ t * (y % 128) ≤ 128 ^ t * 127 := Nat.mul_le_mul_left _ (by omega)
      have b1 : y % 128 ≤ 4611686018427387904 := by omega
      have b2 : m + 128 ^ t * (y % 128) ≤ 4611686018427387904 := by omega
      have b3 : i' + 1 ≤ 4611686018427387904 := by omega
      have t4 : t < 4 := by omega
      have y1 : y % 128 < 128 := by omega
      by_cases h128 : (y : Int) < 128
      · have hlast := hs.last (by omega) hx h128
        have hym : y % 128 = y := by omega
        have hv := (rv_enc hb _ _ _ _ _ _ hlast).2.2.1
        have e4 : (128 : Nat) ^ 4 = 268435456 := rfl
        refine ⟨m + 128 ^ t * (y % 128), i' + 1, bad, Ev.step (f := fun _ => some (((m + 128 ^ t * (y % 128) : Nat) : Int), ((i' + 1 : Nat) : Int), bad)) (fun k => ?_) (Ev.now _), by omega, by omega, ?_, fun h => ?_, fun p hp => ?_⟩
        · rw [spec_l10Read.l0, if_pos (by omega), if_neg (by omega), if_pos (by omega), if_pos (by omega), if_pos (by omega), hrd, if_pos h128, mask_nat hxb.2, wrap_nat b1, shl_seven t4 y1, wrap_add b2, wrap_one b3]
        · have : (y : Int).toNat = y := by omega
          rw [this] at hv
          rw [hym]
          omega
        · rw [hlast] at h; cases h
        · rw [hlast] at hp
          obtain rfl := Option.some.inj hp
          refine ⟨?_, rfl, rfl⟩
          rw [hym]
          rfl
      · have hnx := hs.next (by omega) hx h128
        have hym : ((y : Int).toNat - 128) = y % 128 := by omega
        rw [hym] at hnx
        obtain ⟨V, I, B, h1, h2, h3, h4, h5, h6⟩ := ih (t + 1) (m + 128 ^ t * (y % 128)) (i' + 1) (by omega) (by rw [Nat.pow_succ]; omega) hnx (by omega) (by omega)
        refine ⟨V, I, B, Ev.step (fun k => ?_) h1, h2, h3, h4, h5, h6⟩
        rw [spec_l10Read.l0, if_pos (by omega), if_neg (by omega), if_pos (by omega), if_pos (by omega), if_pos (by omega), hrd, if_neg h128, mask_nat hxb.2, wrap_nat b1, shl_seven t4 y1, wrap_add b2, wrap_one b3, wrap_seven t4]
    · have hx : b[i']? = none := List.getElem?_eq_none (by omega)
      refine ⟨0, i', true, Ev.step (f := fun _ => some (0, (i' : Int), true)) (fun k => ?_) (Ev.now _), hi, hil, by omega, fun _ => rfl, fun p hp => ?_⟩
      · rw [spec_l10Read.l0, if_pos (by omega), if_pos (by omega)]
      · rw [hs.none_ hx] at hp; cases hp
theorem l10_ev {b : List Int} (hb : Bytes b) (hl : b.length ≤ 1048576) (bad : Bool) (i : Nat) (hi : i ≤ b.length) :
    ∃ (V I : Nat) (B : Bool), Ev (fun k => spec_l10Read.f k b (i : Int) bad) ((V : Int), (I : Int), B) ∧ i ≤ I ∧ I ≤ b.length ∧ V < 268435456 ∧ (rv b 4 true i = none → B = true) ∧ ∀ p, rv b 4 true i = some p → V = p.1 ∧ I = p.2.1 ∧ B = bad :=
  l10_loop hb hl bad i 4 0 0 i rfl (by decide) (Stands.start b i) (Nat.le_refl _) hi
end Go.Proofs.Ythofgkmfllccnaa.G
namespace Go.Proofs.Ythofgkmfllccnaa.G
open Go.RowKit Go.Proofs.YthofgkmfllccnaaW.PrintWords Go.Proofs.YthofgkmfllccnaaW.PrintLast Go.Proofs.YthofgkmfllccnaaW.PrintMore
attribute [local go_sem] max2_int min2_int max_two min_two max_three min_three max_four min_four
set_option linter.unusedVariables false
set_option linter.unusedSimpArgs false
def stringslite_HasPrefix.f (a0 : ByteArray) (a1 : ByteArray) : Option (Bool) := if (a0.size : Int) ≥ (a1.size : Int) then (if 0 ≤ (a1.size : Int) then (if (a1.size : Int) ≤ (a0.size : Int) then (some ((a0.extract 0 ((a1.size : Int) : Int).toNat).toList == a1.toList)) else (none)) else (none)) else (some false)
set_option maxHeartbeats 8000000 in
set_option maxRecDepth 100000 in
theorem stringslite_HasPrefix.calls (a0 : ByteArray) (a1 : ByteArray) (r : Bool) (w : World) (h : stringslite_HasPrefix.f a0 a1 = some r) :
    Calls Try.prog 38 #[.string a0, .string a1] w fun e w' => e = .returned (.bool r) ∧ Drawn0 w w' := by
  have H : (if (a0.size : Int) ≥ (a1.size : Int) then (if 0 ≤ (a1.size : Int) then (if (a1.size : Int) ≤ (a0.size : Int) then (some ((a0.extract 0 ((a1.size : Int) : Int).toNat).toList == a1.toList)) else (none)) else (none)) else (some false)) = some r := h
  clear h
  by_cases c3 : (a0.size : Int) ≥ (a1.size : Int)
  · rw [if_pos c3] at H
    have c3b0 : decide ((a1.size : Int) ≤ (a0.size : Int)) = true := decide_eq_true c3
    have c3b1 : decide (a1.size ≤ a0.size) = true := decide_eq_true (Int.ofNat_le.mp c3)
    clear c3
    by_cases c4 : 0 ≤ (a1.size : Int)
    · rw [if_pos c4] at H
      have c4b0 := eq_true c4
      have c4b1 : decide (0 ≤ (a1.size : Int)) = true := decide_eq_true c4
      clear c4
      by_cases c5 : (a1.size : Int) ≤ (a0.size : Int)
      · rw [if_pos c5] at H
        have c5b0 := eq_true c5
        have c5b1 : decide ((a1.size : Int) ≤ (a0.size : Int)) = true := decide_eq_true c5
        clear c5
        obtain rfl := Option.some.inj H
        go_enter Try.func38, Try.ntmps38
        go_wp2
        go_ret
        exact ⟨by first | rfl | (simp; done) | (simp [*]; done), by repeat (first | exact Drawn0.refl _ | apply Drawn0.step)⟩
      · rw [if_neg c5] at H
        exact absurd H (by simp)
    · rw [if_neg c4] at H
      exact absurd H (by simp)
  · rw [if_neg c3] at H
    have c3b0 : decide ((a1.size : Int) ≤ (a0.size : Int)) = false := decide_eq_false c3
    have c3b1 : decide (a1.size ≤ a0.size) = false := decide_eq_false (fun h => c3 (Int.ofNat_le.mpr h))
    clear c3
    obtain rfl := Option.some.inj H
    go_enter Try.func38, Try.ntmps38
    go_wp2
    go_ret
    exact ⟨by first | rfl | (simp; done) | (simp [*]; done), by repeat (first | exact Drawn0.refl _ | apply Drawn0.step)⟩
end Go.Proofs.Ythofgkmfllccnaa.G
namespace Go.Proofs.Ythofgkmfllccnaa.G
open Go.RowKit Go.Proofs.YthofgkmfllccnaaW.PrintWords Go.Proofs.YthofgkmfllccnaaW.PrintLast Go.Proofs.YthofgkmfllccnaaW.PrintMore
attribute [local go_sem] max2_int min2_int max_two min_two max_three min_three max_four min_four
set_option linter.unusedVariables false
set_option linter.unusedSimpArgs false
def strings_HasPrefix.f (a0 : ByteArray) (a1 : ByteArray) : Option (Bool) := (stringslite_HasPrefix.f a0 a1).bind fun t163 => (some t163)
set_option maxHeartbeats 8000000 in
set_option maxRecDepth 100000 in
theorem strings_HasPrefix.calls (a0 : ByteArray) (a1 : ByteArray) (r : Bool) (w : World) (h : strings_HasPrefix.f a0 a1 = some r) :
    Calls Try.prog 25 #[.string a0, .string a1] w fun e w' => e = .returned (.bool r) ∧ Drawn0 w w' := by
  have H : ((stringslite_HasPrefix.f a0 a1).bind fun t163 => (some t163)) = some r := h
  clear h
  replace H := Option.bind_eq_some_iff.mp H
  obtain ⟨t163, A30, H⟩ := H
  replace H : (some t163) = some r := H
  have A3 := Aside0.mk A30
  clear A30
  obtain rfl := Option.some.inj H
  go_enter Try.func25, Try.ntmps25
  go_wp2_with (first | ((with_reducible refine gate_callee (f := 38) rfl ?_); refine goesL_ (some 7) rfl rfl Try.func38 (by kernel_rfl) rfl #[.string a0, .string a1] rfl (by (try simp only [List.map_toArray, List.map_cons, List.map_nil]); first | done | rfl | (simp only [List.length_drop, List.length_take]; rfl)) ?_; (with_reducible refine (stringslite_HasPrefix.calls a0 a1 t163 _ A3.out).mono ?_); rintro e w' ⟨rfl, ⟨nd, rfl⟩⟩; refine ⟨_, rfl, ?_⟩))
  go_ret
  exact ⟨by first | rfl | (simp; done) | (simp [*]; done), by repeat (first | exact Drawn0.refl _ | apply Drawn0.step)⟩
end Go.Proofs.Ythofgkmfllccnaa.G
namespace Go.Proofs.Ythofgkmfllccnaa.G
open Go.RowKit Go.Proofs.YthofgkmfllccnaaW.PrintWords Go.Proofs.YthofgkmfllccnaaW.PrintLast Go.Proofs.YthofgkmfllccnaaW.PrintMore
set_option linter.unusedVariables false
set_option linter.unusedSimpArgs false
theorem drawn_b {w w' : World} (h : Drawn0 w w') : Below w.heap.size w w' := by
  obtain ⟨m, rfl⟩ := h.out
  exact pw_below_drewN (Below.refl _ _) m
theorem toList_inj {a b : ByteArray} (h : a.toList = b.toList) : a = b := by
  rw [Lib.toList_data, Lib.toList_data] at h
  cases a; cases b
  simp at h
  rw [h]
theorem strOf_inj {a b : List Int} (ha : Bytes a) (hb : Bytes b) (h : strOfNums a = strOfNums b) : a = b := by
  unfold strOfNums at h
  have h1 : (a.map fun n => UInt8.ofNat n.toNat) = b.map fun n => UInt8.ofNat n.toNat := by
    injection h with h
    simpa using h
  clear h
  induction a generalizing b with
  | nil => cases b with
    | nil => rfl
    | cons y b => cases h1
  | cons x a ih => cases b with
    | nil => cases h1
    | cons y b =>
      rw [List.map_cons, List.map_cons] at h1
      injection h1 with h1 h2
      have hx := ha x List.mem_cons_self
      have hy := hb y List.mem_cons_self
      have e := congrArg UInt8.toNat h1
      rw [UInt8.toNat_ofNat', UInt8.toNat_ofNat'] at e
      rw [ih (fun z hz => ha z (List.mem_cons_of_mem _ hz)) (fun z hz => hb z (List.mem_cons_of_mem _ hz)) h2]
      congr 1
      omega
theorem strOf_take (b : List Int) (k : Nat) : (strOfNums b).extract 0 k = strOfNums (b.take k) := by
  unfold strOfNums
  apply toList_inj
  rw [Lib.toList_data, Lib.toList_data, Lib.extract_data]
  simp [List.map_take]
theorem strOf_size (b : List Int) : (strOfNums b).size = b.length := by
  show ((b.map fun n => UInt8.ofNat n.toNat).toArray).size = _
  simp
theorem prefix_ev {b : List Int} (hb : Bytes b) : strings_HasPrefix.f (strOfNums b) ⟨#[76, 68, 84, 49]⟩ = some (decide (b.take 4 = hdr)) := by
  have hh : (⟨#[76, 68, 84, 49]⟩ : ByteArray) = strOfNums hdr := rfl
  unfold strings_HasPrefix.f stringslite_HasPrefix.f
  rw [hh, strOf_size, strOf_size]
  have h4 : hdr.length = 4 := rfl
  rw [h4]
  by_cases hl : 4 ≤ b.length
  · rw [if_pos (show (b.length : Int) ≥ ((4 : Nat) : Int) by omega), if_pos (show (0 : Int) ≤ ((4 : Nat) : Int) by omega), if_pos (show ((4 : Nat) : Int) ≤ (b.length : Int) by omega), Option.bind_some]
    have e : (((4 : Nat) : Int)).toNat = 4 := rfl
    rw [e, strOf_take]
    congr 1
    rw [Bool.eq_iff_iff, beq_iff_eq, decide_eq_true_eq]
    constructor
    · intro h
      exact strOf_inj (fun x hx => hb x (List.mem_of_mem_take hx)) (by unfold hdr Bytes; decide) (toList_inj h)
    · intro h
      rw [h]
  · rw [if_neg (show ¬ (b.length : Int) ≥ ((4 : Nat) : Int) by omega), Option.bind_some]
    congr 1
    symm
    rw [decide_eq_false_iff_not]
    intro h
    have := congrArg List.length h
    rw [List.length_take, h4] at this
    omega
theorem S_marks {α : Type} {d : Kd α} {e base g t : Nat} {ok : Nat → Prop} {w w' : World} {v u : Value} {xs : List α} (h : Kd.S d e w base ok v xs) (hi : Var w g t u) (ht : ∀ q, q ∈ e :: d.E → q ≠ t) (hm : Marks (· = g) w w') : Kd.S d e w' base ok v xs :=
  Kd.S_mono (Kd.S_step (Kd.S_types h hi ht) (fun k hk hlt => hm.other k hlt hk.2)) (fun _ hk => hk.1)
structure St (b : List Int) (A : Option Addr) (c : Nat) (w wr : World) (gi : Nat) (v : Value) (out : List S43) (i : Nat) : Prop where
  at_ : Var wr gi 3 (.int .i64 i)
  bytes : Var wr w.heap.size 22 (.slice A b.length c)
  out_ : Kd.S k43 43 wr w.heap.size (fun _ => True) v out
  below : Below w.heap.size w wr
theorem St.move {b : List Int} {A : Option Addr} {c gi i j : Nat} {w wr w' : World} {v : Value} {out : List S43} (h : St b A c w wr gi v out i) (hg : w.heap.size ≤ gi) (hm : Marks (· = gi) wr w') (hj : Var w' gi 3 (.int .i64 j)) : St b A c w w' gi v out j :=
  ⟨hj, h.bytes.other hm (h.bytes.ne h.at_ (by decide)), S_marks h.out_ h.at_ (by decide) hm, hm.to_below h.below h.below.size (fun k hk => by rw [hk]; exact hg)⟩
theorem St.put {b : List Int} {A : Option Addr} {c gi i j : Nat} {w wr : World} {v : Value} {out : List S43} (h : St b A c w wr gi v out i) (hg : w.heap.size ≤ gi) {z : Int} (hz : z = (j : Int)) : St b A c w (wr.setCell ⟨gi, 0, none⟩ (.int .i64 z)) gi v out j :=
  h.move hg (Marks.set h.at_ (cell_blk h.at_ h.at_.cell) (Like.int _ _ _) rfl) (by rw [← hz]; exact h.at_.set)
theorem St.grow {b : List Int} {A : Option Addr} {c gi i : Nat} {w wr w' : World} {v v' : Value} {out out' : List S43} (h : St b A c w wr gi v out i) (hg : wr.grownBy w' v.ownBlock) (ho : Kd.S k43 43 w' w.heap.size (fun _ => True) v' out') (hb : Below w.heap.size w w') : St b A c w w' gi v' out' i :=
  ⟨h.at_.grown hg (Kd.S_ne h.out_ h.at_ (by decide)), h.bytes.grown hg (Kd.S_ne h.out_ h.bytes (by decide)), ho, hb⟩
theorem below_of_grown {w w' : World} (h : w.grownBy w' none) : Below w.heap.size w w' := ⟨h.os, h.tape, h.output, h.size, fun k hk => h.block k hk (by simp)⟩
theorem St.fresh {b : List Int} {A : Option Addr} {c gi i : Nat} {w wr w' : World} {v : Value} {out : List S43} (h : St b A c w wr gi v out i) (hg : wr.grownBy w' none) (hb : Below w.heap.size w w') : St b A c w w' gi v out i :=
  ⟨h.at_.grown hg (by simp), h.bytes.grown hg (by simp), Kd.S_grown h.out_ hg (by simp), hb⟩
theorem C_mid {b : List Int} {A : Option Addr} {c lo m : Nat} {w : World} (h : Kd.C (Kd.int .u8) w A b.length b) (hc : b.length ≤ c) (hlo : lo ≤ b.length) (hm : m ≤ b.length - lo) :
    Kd.C (Kd.int .u8) w (if c = lo then A else A.map (·.add lo)) m ((b.drop lo).take m) := by
  have h1 := Kd.C_drop h hlo hc
  have h2 := Kd.C_take h1 (m := m) (by rw [List.length_drop]; exact hm)
  have e : ((b.drop lo).take m).length = m := by rw [List.length_take, List.length_drop]; omega
  have e2 : lo * (Kd.int .u8).sz = lo := Nat.mul_one lo
  rw [e, e2] at h2
  exact h2
theorem num_st {b : List Int} {A : Option Addr} {c gi i : Nat} {w wr : World} {v : Value} {out : List S43} (h : St b A c w wr gi v out i) (hg : w.heap.size ≤ gi) (hC : Kd.C (Kd.int .u8) w A b.length b) (hc : b.length ≤ c) (hb : Bytes b) (hi : i ≤ b.length) (hl : b.length ≤ 1048576) :
    Calls Try.prog 26 #[.pointer (some ⟨gi, 0, none⟩), .pointer (some ⟨w.heap.size, 0, none⟩)] wr fun e w' => e = .returned (.tuple #[.int .i64 (numV b i : Int), .bool (numB b i)]) ∧ ∃ j, i ≤ j ∧ j ≤ b.length ∧ numAt b i j ∧ St b A c w w' gi v out j := by
  refine (num_c h.below hC hc hb hg h.at_ h.bytes hi hl).mono ?_
  rintro e w' ⟨h1, h2, j, h3, h4, h5, h6⟩
  rw [numAns_eq] at h1
  exact ⟨h1, j, h3, h4, h5, h.move hg h2 h6⟩
theorem steps_none {one : Nat → Int → Option (S43 × Nat)} {b : List Int} {f i : Nat} {out : List S43} (h : b[i]? = none) : steps one b (f + 1) i out = some out := by
  rw [steps, h]
theorem steps_some {one : Nat → Int → Option (S43 × Nat)} {b : List Int} {f i : Nat} {out : List S43} {x : Int} (h : b[i]? = some x) : steps one b (f + 1) i out = (one i x).bind fun p => (more out p.1).bind fun o => steps one b f p.2 o := by
  rw [steps, h]
theorem more_no {out : List S43} {s : S43} (h : 10000 < (out ++ [s]).length) : more out s = none := by unfold more; rw [if_pos h]
theorem more_yes {out : List S43} {s : S43} (h : ¬ 10000 < (out ++ [s]).length) : more out s = some (out ++ [s]) := by unfold more; rw [if_neg h]
set_option maxHeartbeats 8000000 in
set_option maxRecDepth 100000 in
theorem implRead_c {b : List Int} {A : Option Addr} {c : Nat} {w : World} (hC : Kd.C (Kd.int .u8) w A b.length b) (hc : b.length ≤ c) (hb : Bytes b) (hl : b.length ≤ 1048576) :
    Calls Try.prog 7 #[.slice A b.length c] w fun e w' => ∃ v, e = .returned (.tuple #[v, .bool (strictF b).2]) ∧ Kd.S k43 43 w' w.heap.size (fun _ => True) v (strictF b).1 ∧ Below w.heap.size w w' := by
  have hu43 := Try.underlying43
  have HC := Aside0.mk hC
  have HCC := Aside0.mk hc
  have HBY := Aside0.mk hb
  clear hC hc hb
  have hcv := Kd.C_string (P := Try.prog) (A := A) (c := c) Try.underlying22 Try.underlying5 Try.underlying9 (Kd.C_below HC.out ((Below.refl w.heap.size w).alloc (Nat.le_refl _) (.cells #[.slice A b.length c] 22)))
  have HP := Aside0.mk (prefix_ev HBY.out)
  by_cases hh : b.take 4 = hdr
  · have hd : decide (b.take 4 = hdr) = true := decide_eq_true hh
    rw [hd] at HP
    clear hd
    have hn4 : 4 ≤ b.length := by
      have := congrArg List.length hh
      rw [List.length_take] at this
      have h4 : hdr.length = 4 := rfl
      omega
    have HS : Aside0 (strictF b = ansOf (steps (one1 b) b (b.length + 1) 4 [])) := ⟨by unfold strictF; rw [if_pos hh]⟩
    clear hh
    go_enter Try.func7, Try.ntmps7
    go_wp2_with (first | (go_at_call 25; refine (strings_HasPrefix.calls _ _ true _ HP.out).mono ?_; rintro e w1 ⟨rfl, hd1⟩; have hb1 := drawn_b hd1; have hsz0 := Aside0.mk hb1.size; have hv1 := (Var.new w 22 (.slice A b.length c)).below hb1; have hB1 := below_alloc (below_then (below_alloc (Below.refl _ _) (.cells #[.slice A b.length c] 22)) (by simp) hb1) (.cells #[.int .i64 4] 3); have hV1 := Aside0.mk (hv1.alloc (.cells #[.int .i64 4] 3)); have hI1 := Aside0.mk (Var.new w1 3 (.int .i64 4)); clear hd1 hb1 hv1) | ((with_reducible refine gate_dst (N := 19) rfl ?_); refine Kd.S_lit k43 (w0 := w) w.heap.size 43 ?hg (N := 19) ?hd (xs := ([] : List S43)) (inner := []) (ok := fun _ => True) (okp := fun _ => False) ?hr ?hp (fun _ hk => hk.elim) trivial hB1 hB1.size (by simp) ?_; (case hd => rfl); (case hg => rfl); (case hr => first | (go_simp; done) | (go_simp; rfl)); (case hp => exact (Reps.none _ _)); intro v6 w3 ho6 hb3 hg3 hnew3) | fail)
    have HV := Aside0.mk (hV1.out.grown hg3 (by simp))
    have HI := Aside0.mk (hI1.out.grown hg3 (by simp))
    have hsz1 : w.heap.size < w1.heap.size := by
      have := hsz0.out
      simp at this
      exact this
    clear hsz0
    obtain ⟨gi, hgi⟩ : ∃ gi, gi = w1.heap.size := ⟨_, rfl⟩
    have hg1 : w.heap.size ≤ gi := by rw [hgi]; omega
    rw [← hgi] at HI ⊢
    have HO := Aside0.mk ho6
    have HB := Aside0.mk hb3
    clear ho6 hb3 hg3 hnew3 hV1 hI1 hB1 hcv hsz1 hgi
    obtain ⟨R, hR⟩ : ∃ R, R = steps (one1 b) b (b.length + 1) 4 [] := ⟨_, rfl⟩
    rw [← hR] at HS
    have HR := Aside0.mk hR.symm
    clear hR
    go_loopg [6] (b.length + 1) (fun kq v6 wr => ∃ (i : Nat) (out : List S43), i ≤ b.length ∧ Aside0 (b.length < i + kq) ∧ Aside0 (kq ≤ b.length + 1) ∧ Aside0 (steps (one1 b) b kq i out = R) ∧ Aside0 (out.length ≤ 10000) ∧ Aside0 (St b A c w wr gi v6 out i))
    case atStart => exact ⟨4, [], hn4, ⟨by omega⟩, ⟨Nat.le_refl _⟩, HR, ⟨by simp⟩, ⟨⟨HI.out, HV.out, HO.out, HB.out⟩⟩⟩
    case round =>
      clear HR HI HV HO HB
      obtain ⟨i, out, hil, HF, HF1, HR, HL, HT⟩ := hrel
      cases gk with
      | zero => exact absurd HF.out (by omega)
      | succ k1 =>
        have x0 := HT.out.at_.cell
        have x1 := HT.out.bytes.cell
        have f0 := HT.out.at_.frozen
        by_cases hlt : i < b.length
        · obtain ⟨ad, x, hA, hx, hcx⟩ := byte_at HC.out hlt
          subst hA
          have hxb := HBY.out x (List.mem_of_getElem? hx)
          replace hcx := (HT.out.below.cell (World.block_lt_of_cell? w _ hcx)).trans hcx
          have hst := HR.out
          rw [steps_some hx] at hst
          replace HR := Aside0.mk hst
          have HX := Aside0.mk hx
          clear hx hst
          by_cases h1 : x = 1
          · subst h1
            go_wp2_with fail
            refine (num_st (HT.out.put hg1 (j := i + 1) (by omega)) hg1 HC.out HCC.out HBY.out (by omega) hl).mono ?_
            rintro e w2 ⟨rfl, j1, hj1, hj2, ha1, ht1⟩
            have HA1 := Aside0.mk ha1
            have HT1 := Aside0.mk ht1
            clear ha1 ht1 x0 x1 f0 hcx
            go_wp2_with fail
            refine (num_st HT1.out hg1 HC.out HCC.out HBY.out hj2 hl).mono ?_
            rintro e w3 ⟨rfl, j2, hk1, hk2, ha2, ht2⟩
            have HA2 := Aside0.mk ha2
            have HT2 := Aside0.mk ht2
            clear ha2 ht2 HT1
            cases hB1 : numB b (i + 1) with
            | false =>
              have hr : R = none := by
                rw [← HR.out]
                unfold one1
                rw [if_pos rfl]
                cases e1 : rv b 4 true (i + 1) with
                | none => rfl
                | some p =>
                  rw [Option.bind_some]
                  cases e2 : rv b 4 true p.2.1 with
                  | none => rfl
                  | some q => rw [Option.bind_some, numB_false hB1 e1]; rfl
              have HRS := Aside0.mk hr
              clear hr
              go_wp2_with fail
              go_ret2
              rw [HS.out, HRS.out]
              exact ⟨_, rfl, Kd.S_nil _ _ _ _ _, HT2.out.below⟩
            | true =>
              have HE1 := Aside0.mk (numB_true hB1 HA1.out)
              cases hB2 : numB b j1 with
              | false =>
                have hr : R = none := by
                  rw [← HR.out]
                  unfold one1
                  rw [if_pos rfl, HE1.out, Option.bind_some]
                  cases e2 : rv b 4 true j1 with
                  | none => rfl
                  | some q => rw [Option.bind_some, numB_false hB2 e2]; rfl
                have HRS := Aside0.mk hr
                clear hr
                go_wp2_with fail
                go_ret2
                rw [HS.out, HRS.out]
                exact ⟨_, rfl, Kd.S_nil _ _ _ _ _, HT2.out.below⟩
              | true =>
                have HE2 := Aside0.mk (numB_true hB2 HA2.out)
                have hv1 := numV_lt HBY.out (i + 1)
                have hv2 := numV_lt HBY.out j1
                obtain ⟨V1, hV1⟩ : ∃ V, V = numV b (i + 1) := ⟨_, rfl⟩
                obtain ⟨V2, hV2⟩ : ∃ V, V = numV b j1 := ⟨_, rfl⟩
                rw [← hV1] at HE1 hv1 ⊢
                rw [← hV2] at HE2 hv2 ⊢
                clear hV1 hV2 hB1 hB2
                have hone : one1 b i 1 = (if decide (V2 ≠ 0) then some (⟨1, V1, V2, []⟩, j2) else none) := by
                  unfold one1
                  rw [if_pos rfl, HE1.out, Option.bind_some, HE2.out, Option.bind_some]
                  rfl
                have HONE := Aside0.mk hone
                clear hone
                by_cases hz : V2 = 0
                · subst hz
                  have hr : R = none := by rw [← HR.out, HONE.out]; rfl
                  have HRS := Aside0.mk hr
                  clear hr
                  go_wp2_with fail
                  go_ret2
                  rw [HS.out, HRS.out]
                  exact ⟨_, rfl, Kd.S_nil _ _ _ _ _, HT2.out.below⟩
                · have hz0 : ((V2 : Int) == 0) = false := beq_eq_false_iff_ne.2 (by omega)
                  have hzz : decide (V2 ≠ 0) = true := decide_eq_true hz
                  have HONE2 : Aside0 (one1 b i 1 = some (⟨1, V1, V2, []⟩, j2)) := ⟨by rw [HONE.out, if_pos hzz]⟩
                  clear hzz HONE
                  have hol : out.length ≤ 10000 := HL.out
                  go_wp2_with (first | ((with_reducible refine gate_builtin (b := .append) (xs := #[.tmp 53, .tmp 57]) rfl ?_); at_builtin; refine Kd.S_append k43 (w0 := w) w.heap.size rfl (.tmp 53) (.tmp 57) 23 43 (.agg #[(.int .i64 0), (.int .i64 0), (.int .i64 0), (.slice none 0 0)]) 48 rfl Try.underlying23 info43 rfl (by decide) (by omega) u6 out (⟨1, V1, V2, ([] : List Int)⟩ : S43) [.int .i64 1, .int .i64 V1, .int .i64 V2, .slice none 0 0] (fun _ => True) (fun _ => False) rfl rfl ?aP (fun k_ hk_ => hk_.elim) (fun _ _ => trivial) ?aO HT2.out.below HT2.out.below.size ?aL ?_; (case aP => exact k43_mkM _ _ _ (⟨1, V1, V2, ([] : List Int)⟩ : S43) (Kd.R_nil _ _ _ _ _)); (case aO => exact Kd.S_mono HT2.out.out_ (fun k_ hk => ⟨trivial, fun e_ => e_⟩)); (case aL => omega); intro v4 w4 ho hb4 hg4 hat; have HT4 := Aside0.mk (HT2.out.grow hg4 ho hb4); obtain ⟨A4, c4, rfl⟩ := Kd.S_slice ho; clear ho hb4 hg4 hat) | fail)
                  · have hr : R = none := by
                      rw [← HR.out, HONE2.out, Option.bind_some, more_no (by simp; omega)]
                      rfl
                    have HRS := Aside0.mk hr
                    clear hr
                    go_ret2
                    rw [HS.out, HRS.out]
                    exact ⟨_, rfl, Kd.S_nil _ _ _ _ _, HT4.out.below⟩
                  · have hno : ¬ 10000 < (out ++ [(⟨1, V1, V2, ([] : List Int)⟩ : S43)]).length := by simp; omega
                    have hnx : steps (one1 b) b k1 j2 (out ++ [⟨1, V1, V2, []⟩]) = R := by
                      rw [← HR.out, HONE2.out, Option.bind_some, more_yes hno]
                      rfl
                    have HNX := Aside0.mk hnx
                    have HNO := Aside0.mk hno
                    clear hnx hno
                    go_roundg k1
                    case measure => have := HF1.out; omega
                    case rel => exact ⟨j2, _, hk2, ⟨by have := HF.out; omega⟩, ⟨by have := HF1.out; omega⟩, HNX, ⟨by have := HNO.out; omega⟩, ⟨by simpa using HT4.out⟩⟩
          · have h1d : (x == 1) = false := beq_eq_false_iff_ne.2 h1
            by_cases h2 : x = 2
            · subst h2
              go_wp2_with fail
              refine (num_st (HT.out.put hg1 (j := i + 1) (by omega)) hg1 HC.out HCC.out HBY.out (by omega) hl).mono ?_
              rintro e w2 ⟨rfl, j1, hj1, hj2, ha1, ht1⟩
              have HA1 := Aside0.mk ha1
              have HT1 := Aside0.mk ht1
              clear ha1 ht1 x0 x1 f0 hcx
              have x0 := HT1.out.at_.cell
              have x1 := HT1.out.bytes.cell
              have f0 := HT1.out.at_.frozen
              cases hB1 : numB b (i + 1) with
              | false =>
                have hr : R = none := by
                  rw [← HR.out]
                  unfold one1
                  rw [if_neg (by decide), if_pos rfl]
                  cases e1 : rv b 4 true (i + 1) with
                  | none => rfl
                  | some p =>
                    rw [Option.bind_some, numB_false hB1 e1]
                    rfl
                have HRS := Aside0.mk hr
                clear hr
                go_wp2_with fail
                go_ret2
                rw [HS.out, HRS.out]
                exact ⟨_, rfl, Kd.S_nil _ _ _ _ _, HT1.out.below⟩
              | true =>
                have HE1 := Aside0.mk (numB_true hB1 HA1.out)
                have hv1 := numV_lt HBY.out (i + 1)
                obtain ⟨V1, hV1⟩ : ∃ V, V = numV b (i + 1) := ⟨_, rfl⟩
                rw [← hV1] at HE1 hv1 ⊢
                clear hV1 hB1
                have hone : one1 b i 2 = (if decide (V1 ≠ 0) && decide (V1 ≤ b.length - j1) then some (⟨2, 0, 0, (b.drop j1).take V1⟩, j1 + V1) else none) := by
                  unfold one1
                  rw [if_neg (by decide), if_pos rfl, HE1.out, Option.bind_some]
                  rfl
                have HONE := Aside0.mk hone
                clear hone
                by_cases hz : V1 = 0
                · subst hz
                  have hr : R = none := by rw [← HR.out, HONE.out]; rfl
                  have HRS := Aside0.mk hr
                  clear hr
                  go_wp2_with fail
                  go_ret2
                  rw [HS.out, HRS.out]
                  exact ⟨_, rfl, Kd.S_nil _ _ _ _ _, HT1.out.below⟩
                · have hz0 : ((V1 : Int) == 0) = false := beq_eq_false_iff_ne.2 (by omega)
                  by_cases hbig : V1 ≤ b.length - j1
                  · have HONE2 : Aside0 (one1 b i 2 = some (⟨2, 0, 0, (b.drop j1).take V1⟩, j1 + V1)) := ⟨by rw [HONE.out, decide_eq_true hz, decide_eq_true hbig]; rfl⟩
                    clear HONE
                    have hd3 : decide ((b.length : Int) - (j1 : Int) < (V1 : Int)) = false := decide_eq_false (by omega)
                    have hol : out.length ≤ 10000 := HL.out
                    have HMID : Aside0 (∀ W : World, Below w.heap.size w W → Kd.C (Kd.int .u8) W (some (ad.add j1)) (j1 + V1 - j1) ((b.drop j1).take V1)) := ⟨fun W hW => by
                      rw [show j1 + V1 - j1 = V1 by omega]
                      have h := C_mid (Kd.C_below HC.out hW) HCC.out hj2 hbig
                      rw [if_neg (by have := HCC.out; omega)] at h
                      exact h⟩
                    obtain ⟨D, hD⟩ : ∃ D, D = (b.drop j1).take V1 := ⟨_, rfl⟩
                    rw [← hD] at HMID HONE2
                    clear hD
                    have hjc : (j1 : Int) + (V1 : Int) ≤ (c : Int) := by have := HCC.out; omega
                    go_wp2_with (first | ((with_reducible refine gate_dst (N := 81) rfl ?_); refine Kd.R_lit (Kd.int .u8) (w0 := w) w.heap.size 5 ?hg (N := 81) ?hd (xs := ([] : List Int)) (inner := []) (ok := fun _ => True) (okp := fun _ => False) ?hr ?hp (fun _ hk => hk.elim) trivial HT1.out.below HT1.out.below.size (by simp) ?_; (case hd => rfl); (case hg => rfl); (case hr => first | (go_simp; done) | (go_simp; rfl)); (case hp => exact (Reps.none _ _)); intro v81 w3 ho hb3 hg3 hnew; have HT3 := Aside0.mk (HT1.out.fresh hg3 hb3); have HO3 := Aside0.mk ho; have HOE := Aside0.mk (Kd.S_elder' HT1.out.out_ (fun k hk => by obtain ⟨b', hb', hle⟩ := hnew; rw [hb'] at hk; cases hk; exact hle) (below_of_grown hg3)); clear ho hb3 hg3 hnew x0 x1 f0; have x0 := HT3.out.at_.cell; have x1 := HT3.out.bytes.cell; have f0 := HT3.out.at_.frozen) | ((with_reducible refine gate_builtin (b := .append) (xs := #[.tmp 81, .tmp 87]) rfl ?_); at_builtin; refine Kd.R_append_rows (Kd.int .u8) (w0 := w) w.heap.size rfl (.tmp 81) (.tmp 87) 22 5 (.int .u8 0) 1 rfl Try.underlying22 info5 rfl (by decide) (by omega) v81 ([] : List Int) D (some (ad.add j1)) (j1 + V1 - j1) (c - j1) (fun _ => True) (fun _ => False) rfl rfl HO3.out (HMID.out _ HT3.out.below) (fun _ _ h => h) (fun _ h => h.elim) (fun _ _ => trivial) HT3.out.below HT3.out.below.size ?aL ?_; (case aL => simp; omega); intro v88 w4 ho hb4 hg4 hat4; replace ho : (Kd.int .u8).R 5 w4 w.heap.size (fun _ => True) v88 D := ho; have HT4 : Aside0 (St b (some ad) c w w4 gi u6 out j1) := ⟨⟨HT3.out.at_.grown hg4 (Kd.R_ne HO3.out HT3.out.at_ (by decide)), HT3.out.bytes.grown hg4 (Kd.R_ne HO3.out HT3.out.bytes (by decide)), Kd.S_mono (Kd.S_after HOE.out hg4 hat4) (fun _ _ => trivial), hb4⟩⟩; have HOF := Aside0.mk (Kd.S_after HOE.out hg4 hat4); have HO4 := Aside0.mk ho; (obtain ⟨A8, c8, rfl⟩ := Kd.R_slice ho); clear ho hb4 hg4 hat4 HOE HO3 x0 x1 f0) | ((with_reducible refine gate_builtin (b := .append) (xs := #[.tmp 80, .tmp 90]) rfl ?_); at_builtin; refine Kd.S_append k43 (w0 := w) w.heap.size rfl (.tmp 80) (.tmp 90) 23 43 (.agg #[(.int .i64 0), (.int .i64 0), (.int .i64 0), (.slice none 0 0)]) 48 rfl Try.underlying23 info43 rfl (by decide) (by omega) u6 out (⟨2, 0, 0, D⟩ : S43) [.int .i64 2, .int .i64 0, .int .i64 0, .slice A8 D.length c8] (fun _ => True) (fun k => some k = (Value.slice A8 D.length c8).ownBlock) rfl rfl ?aP ?aK (fun _ _ => trivial) ?aO HT4.out.below HT4.out.below.size ?aL ?_; (case aP => exact k43_mkM _ _ _ (⟨2, 0, 0, D⟩ : S43) (Kd.R_tight rfl HO4.out)); (case aK => exact fun k hk => ⟨trivial, by (obtain ⟨cells, hcl⟩ := Kd.R_typed HO4.out k hk.symm; exact Kd.S_ne HT4.out.out_ hcl (by decide))⟩); (case aO => exact Kd.S_mono HOF.out (fun k hk => ⟨trivial, fun e => hk.2 e⟩)); (case aL => omega); intro v5 w5 ho hb5 hg5 hat; have HT5 := Aside0.mk (HT4.out.grow hg5 ho hb5); obtain ⟨A5, c5, rfl⟩ := Kd.S_slice ho; clear ho hb5 hg5 hat HOF HO4; have x0 := HT5.out.at_.cell; have x1 := HT5.out.bytes.cell; have f0 := HT5.out.at_.frozen; have HT6 := Aside0.mk (HT5.out.put hg1 (z := (j1 : Int) + (V1 : Int)) (j := j1 + V1) (by omega))) | fail)
                    · have hr : R = none := by
                        rw [← HR.out, HONE2.out, Option.bind_some, more_no (by simp; omega)]
                        rfl
                      have HRS := Aside0.mk hr
                      clear hr
                      go_ret2
                      rw [HS.out, HRS.out]
                      exact ⟨_, rfl, Kd.S_nil _ _ _ _ _, HT6.out.below⟩
                    · have hno : ¬ 10000 < (out ++ [(⟨2, 0, 0, D⟩ : S43)]).length := by simp; omega
                      have hnx : steps (one1 b) b k1 (j1 + V1) (out ++ [⟨2, 0, 0, D⟩]) = R := by
                        rw [← HR.out, HONE2.out, Option.bind_some, more_yes hno]
                        rfl
                      have HNX := Aside0.mk hnx
                      have HNO := Aside0.mk hno
                      clear hnx hno
                      go_roundg k1
                      case measure => have := HF1.out; omega
                      case rel => exact ⟨j1 + V1, _, by omega, ⟨by have := HF.out; omega⟩, ⟨by have := HF1.out; omega⟩, HNX, ⟨by have := HNO.out; omega⟩, ⟨by simpa using HT6.out⟩⟩
                  · have hr : R = none := by rw [← HR.out, HONE.out, decide_eq_false hbig, Bool.and_false]; rfl
                    have HRS := Aside0.mk hr
                    clear hr
                    have hd3 : decide ((b.length : Int) - (j1 : Int) < (V1 : Int)) = true := decide_eq_true (by omega)
                    go_wp2_with fail
                    go_ret2
                    rw [HS.out, HRS.out]
                    exact ⟨_, rfl, Kd.S_nil _ _ _ _ _, HT1.out.below⟩
            · have h2d : (x == 2) = false := beq_eq_false_iff_ne.2 h2
              have hr : R = none := by
                rw [← HR.out]
                unfold one1
                rw [if_neg h1, if_neg h2]
                rfl
              have HRS := Aside0.mk hr
              have HT1 := Aside0.mk (HT.out.put hg1 (z := (i : Int) + 1) (j := i + 1) (by omega))
              clear hr h1 h2
              go_wp2_with fail
              go_ret2
              rw [HS.out, HRS.out]
              exact ⟨_, rfl, Kd.S_nil _ _ _ _ _, HT1.out.below⟩
        · have hie : i = b.length := by omega
          have hr : R = some out := by rw [← HR.out, steps_none (List.getElem?_eq_none (by omega))]
          have HRS := Aside0.mk hr
          clear hr
          subst hie
          go_wp2_with fail
          go_ret2
          rw [HS.out, HRS.out]
          exact ⟨_, rfl, HT.out.out_, HT.out.below⟩
  · have hd : decide (b.take 4 = hdr) = false := decide_eq_false hh
    rw [hd] at HP
    clear hd
    have hs : strictF b = ([], false) := by unfold strictF; rw [if_neg hh]
    rw [hs]
    go_enter Try.func7, Try.ntmps7
    go_wp2_with (first | (go_at_call 25; refine (strings_HasPrefix.calls _ _ false _ HP.out).mono ?_; rintro e w1 ⟨rfl, hd1⟩) | fail)
    go_ret2
    exact ⟨_, rfl, Kd.S_nil _ _ _ _ _, below_then (below_alloc (Below.refl _ _) _) (by simp) (drawn_b hd1)⟩
end Go.Proofs.Ythofgkmfllccnaa.G
namespace Go.Proofs.Ythofgkmfllccnaa.G
open Go.RowKit Go.Proofs.YthofgkmfllccnaaW.PrintWords Go.Proofs.YthofgkmfllccnaaW.PrintLast Go.Proofs.YthofgkmfllccnaaW.PrintMore
attribute [local go_sem] max2_int min2_int max_two min_two max_three min_three max_four min_four
set_option linter.unusedVariables false
set_option linter.unusedSimpArgs false
def IsR41 (w0 W : World) (g : Nat) (f0 : List Int) (f1 : Int) (f2 : Bool) : Prop := ∃ A0 c0, W.heap[g]? = some (.cells #[.slice A0 f0.length c0, .int .i64 f1, .bool f2] 41 (0, 0)) ∧ (w0.heap.size ≤ g ∧ f0.length ≤ c0) ∧ Kd.C (Kd.int .u8) w0 A0 f0.length f0
theorem IsR41.grown {w0 W : World} {g : Nat} {f0 : List Int} {f1 : Int} {f2 : Bool} {W1 : World} {row : Option Nat} (h : IsR41 w0 W g f0 f1 f2) (hw : W.grownBy W1 row) (hne : some g ≠ row) : IsR41 w0 W1 g f0 f1 f2 := by
  obtain ⟨A0, c0, hb, hg, hr0⟩ := h
  exact ⟨A0, c0, blk_grown hb hw hne, hg, hr0⟩
theorem IsR41.kept {w0 W : World} {g : Nat} {f0 : List Int} {f1 : Int} {f2 : Bool} {W1 : World} {S : Nat → Prop} (h : IsR41 w0 W g f0 f1 f2) (hk : Kept W W1 S) (hne : ¬ S g) : IsR41 w0 W1 g f0 f1 f2 := by
  obtain ⟨A0, c0, hb, hg, hr0⟩ := h
  exact ⟨A0, c0, blk_kept hb hk hne, hg, hr0⟩
theorem IsR41.below {w0 W : World} {g : Nat} {f0 : List Int} {f1 : Int} {f2 : Bool} {W1 : World} (h : IsR41 w0 W g f0 f1 f2) (hw : Below W.heap.size W W1) : IsR41 w0 W1 g f0 f1 f2 := h.grown (grown_of_below hw none) (by simp)
theorem IsR41.alloc {w0 W : World} {g : Nat} {f0 : List Int} {f1 : Int} {f2 : Bool} (h : IsR41 w0 W g f0 f1 f2) (o : Obj) : IsR41 w0 (W.alloc o) g f0 f1 f2 := h.below (below_alloc (Below.refl _ _) o)
theorem IsR41.drewN {w0 W : World} {g : Nat} {f0 : List Int} {f1 : Int} {f2 : Bool} (h : IsR41 w0 W g f0 f1 f2) (m : Nat) : IsR41 w0 (W.drewN m) g f0 f1 f2 := h
theorem IsR41.drew {w0 W : World} {g : Nat} {f0 : List Int} {f1 : Int} {f2 : Bool} (h : IsR41 w0 W g f0 f1 f2) : IsR41 w0 W.drew g f0 f1 f2 := h
theorem IsR41.lt {w0 W : World} {g : Nat} {f0 : List Int} {f1 : Int} {f2 : Bool} (h : IsR41 w0 W g f0 f1 f2) : g < W.heap.size := by
  obtain ⟨A0, c0, hb, hg, hr0⟩ := h
  exact blk_lt hb
theorem IsR41.ge {w0 W : World} {g : Nat} {f0 : List Int} {f1 : Int} {f2 : Bool} (h : IsR41 w0 W g f0 f1 f2) : w0.heap.size ≤ g := by
  obtain ⟨A0, c0, hb, hg, hr0⟩ := h
  exact hg.1
theorem IsR41.set_1 {w0 W : World} {g : Nat} {f0 : List Int} {f1 : Int} {f2 : Bool} (h : IsR41 w0 W g f0 f1 f2) (x : Int) : IsR41 w0 (W.setCell ⟨g, 1, none⟩ (.int .i64 x)) g f0 x f2 := by
  obtain ⟨A0, c0, hb, hg, hr0⟩ := h
  exact ⟨A0, c0, by simpa using blk_set hb 1 (.int .i64 x), hg, hr0⟩
theorem IsR41.set_2 {w0 W : World} {g : Nat} {f0 : List Int} {f1 : Int} {f2 : Bool} (h : IsR41 w0 W g f0 f1 f2) (x : Bool) : IsR41 w0 (W.setCell ⟨g, 2, none⟩ (.bool x)) g f0 f1 x := by
  obtain ⟨A0, c0, hb, hg, hr0⟩ := h
  exact ⟨A0, c0, by simpa using blk_set hb 2 (.bool x), hg, hr0⟩
theorem IsR41.new (w0 W : World) (A0 : Option Addr) (c0 : Nat) (f0 : List Int) (f1 : Int) (f2 : Bool) (hB : Below w0.heap.size w0 W) (hr0 : Kd.C (Kd.int .u8) w0 A0 f0.length f0) (hc : f0.length ≤ c0) : IsR41 w0 (W.alloc (.cells #[.slice A0 f0.length c0, .int .i64 f1, .bool f2] 41)) W.heap.size f0 f1 f2 := ⟨A0, c0, by simpa using heap_alloc_new W _, ⟨hB.size, hc⟩, hr0⟩
set_option maxHeartbeats 8000000 in
set_option maxRecDepth 100000 in
theorem spec_l10Read.callsR (k : Nat) (g : Nat) (s0_0 : List Int) (s0_1 : Int) (s0_2 : Bool) (r1 : Int) (r2 : Int) (r3 : Bool) (w0 w : World) (hI : IsR41 w0 w g s0_0 s0_1 s0_2) (hB : Below w0.heap.size w0 w) (h : spec_l10Read.f k s0_0 s0_1 s0_2 = some (r1, r2, r3)) :
    Calls Try.prog 21 #[.pointer (some ⟨g, 0, none⟩)] w fun e w' => e = .returned (.int .i64 r1) ∧ IsR41 w0 w' g s0_0 r2 r3 ∧ Below w0.heap.size w0 w' ∧ KeepBut w w' g none := by
  have HI0 := Aside0.mk hI
  have HK := Aside0.mk (KeepBut.refl w g none)
  have HL := Aside0.mk hB.size
  clear hI
  have HW0 := Aside0.mk hB.size
  have HB := Aside0.mk hB
  clear hB
  have H : (spec_l10Read.l0 k 0 0 s0_0 s0_1 s0_2) = some (r1, r2, r3) := h
  clear h
  have H' := Aside0.mk H
  clear H
  go_enter Try.func21, Try.ntmps21
  go_wp2
  repeat (go_quiet (fail); try go_wp2)
  go_loopg [3, 4] k (fun kq v3 v4 w' => ∃ (x3_1 : Int) (x4_1 : Int) (x1001_1 : Int) (x1002_1 : Bool), v3 = .int .i64 x3_1 ∧ v4 = .int .u64 x4_1 ∧ Aside0 (spec_l10Read.l0 kq x3_1 x4_1 s0_0 x1001_1 x1002_1 = some (r1, r2, r3)) ∧ Aside0 (kq ≤ k) ∧ Aside0 (IsR41 w0 w' g s0_0 x1001_1 x1002_1) ∧ Aside0 (KeepBut w w' g none) ∧ Aside0 (Below w0.heap.size w0 w'))
  case atStart => exact ⟨(0), (0), (s0_1), (s0_2), (by first | rfl | (simp; done) | (simp [*]; done)), (by first | rfl | (simp; done) | (simp [*]; done)), H', ⟨Nat.le_refl _⟩, ⟨by repeat (first | (with_reducible first | exact HI0.out | apply IsR41.alloc | apply IsR41.drewN | apply IsR41.drew | apply IsR41.set_1 | apply IsR41.set_2) | exact HI0.out)⟩, ⟨by repeat (first | (with_reducible first | exact HK.out | apply KeepBut.set_ | apply keep_drewN | apply keep_drew | apply keep_alloc) | exact HK.out)⟩, ⟨by repeat (first | (with_reducible first | exact HB.out | apply below_alloc | apply pw_below_drewN | apply below_drew1 | refine below_set ?_ (IsR41.ge HI0.out)) | exact HB.out)⟩⟩
  case round =>
    clear H'
    obtain ⟨x3_1, x4_1, x1001_1, x1002_1, rfl, rfl, HA, HK1, HI0, HK, HB⟩ := hrel
    cases gk with
    | zero => exact absurd HA.out (by simp [spec_l10Read.l0])
    | succ k1 =>
      have H := HA.out
      clear HA
      simp only [spec_l10Read.l0] at H
      by_cases c2 : x4_1 < 28
      · rw [if_pos c2] at H
        have c2b0 : decide (x4_1 < 28) = true := decide_eq_true c2
        clear c2
        by_cases c3 : x1001_1 ≥ (s0_0.length : Int)
        · rw [if_pos c3] at H
          have c3b0 : decide ((s0_0.length : Int) ≤ x1001_1) = true := decide_eq_true c3
          clear c3
          simp only [Option.some.injEq, Prod.mk.injEq] at H
          obtain ⟨rfl, rfl, rfl⟩ := H
          obtain ⟨ASz4_0, cSz4_0, HGz4, hgz4, HSz4_0⟩ := HI0.out
          have hcz4_0 := cellS41_0 HGz4
          have hcz4_1 := cellS41_1 HGz4
          have hcz4_2 := cellS41_2 HGz4
          have hfz4_1 := blk_frozen HGz4 1
          have hfz4_2 := blk_frozen HGz4 2
          clear HGz4 hgz4
          go_wp2
          repeat (go_quiet (fail); try go_wp2)
          go_ret
          exact ⟨by first | rfl | (simp [errW_none, errW_some] <;> rfl) | (simp [*, errW_none, errW_some] <;> rfl), by repeat (first | (with_reducible first | exact HI0.out | apply IsR41.alloc | apply IsR41.drewN | apply IsR41.drew | apply IsR41.set_1 | apply IsR41.set_2) | exact HI0.out), by repeat (first | (with_reducible first | exact HB.out | apply below_alloc | apply pw_below_drewN | apply below_drew1 | refine below_set ?_ (IsR41.ge HI0.out)) | exact HB.out), by repeat (first | (with_reducible first | exact HK.out | apply KeepBut.set_ | apply keep_drewN | apply keep_drew | apply keep_alloc) | exact HK.out)⟩
        · rw [if_neg c3] at H
          have c3b0 : decide ((s0_0.length : Int) ≤ x1001_1) = false := decide_eq_false c3
          clear c3
          by_cases c5 : 0 ≤ x1001_1
          · rw [if_pos c5] at H
            have c5b0 : decide (0 ≤ x1001_1) = true := decide_eq_true c5
            clear c5
            by_cases c6 : x1001_1 < (s0_0.length : Int)
            · rw [if_pos c6] at H
              have c6b0 : decide (x1001_1 < (s0_0.length : Int)) = true := decide_eq_true c6
              clear c6
              by_cases c7 : 0 ≤ x4_1
              · rw [if_pos c7] at H
                have c7b0 := eq_true c7
                have c7b1 : decide (0 ≤ x4_1) = true := decide_eq_true c7
                clear c7
                obtain ⟨ji8, hji8⟩ : ∃ j_ : Int, (shl .i64 (wrap64 (Go.bits .and .u8 (rd s0_0 x1001_1) 127)) x4_1) = j_ := ⟨_, rfl⟩
                replace H : (if (rd s0_0 x1001_1) < 128 then (some (wrap64 (x3_1 + (ji8)), wrap64 (x1001_1 + 1), x1002_1)) else (spec_l10Read.l0 k1 (wrap64 (x3_1 + (ji8))) (IntKind.u64.wrap (x4_1 + 7)) s0_0 (wrap64 (x1001_1 + 1)) x1002_1)) = some (r1, r2, r3) := by first | (rw [hji8] at H; exact H) | (simp only [hji8] at H ⊢; exact H)
                have hji8_ : (IntKind.i64.wrap ((wrap64 (Go.bits .and .u8 (rd s0_0 x1001_1) 127)) * 2 ^ min x4_1.toNat 64)) = ji8 := hji8
                have hji8z : x4_1 ≤ 64 → (IntKind.i64.wrap ((wrap64 (Go.bits .and .u8 (rd s0_0 x1001_1) 127)) * 2 ^ x4_1.toNat)) = ji8 := shl_small hji8
                have hji8y : (wrap64 ((wrap64 (Go.bits .and .u8 (rd s0_0 x1001_1) 127)) * 2 ^ min x4_1.toNat 64)) = ji8 := (i64_w _).symm.trans hji8_
                have hji8x : x4_1 ≤ 64 → (wrap64 ((wrap64 (Go.bits .and .u8 (rd s0_0 x1001_1) 127)) * 2 ^ x4_1.toNat)) = ji8 := fun h_ => (i64_w _).symm.trans (hji8z h_)
                by_cases c9 : (rd s0_0 x1001_1) < 128
                · rw [if_pos c9] at H
                  have c9b0 : decide ((rd s0_0 x1001_1) < 128) = true := decide_eq_true c9
                  clear c9
                  simp only [Option.some.injEq, Prod.mk.injEq] at H
                  obtain ⟨rfl, rfl, rfl⟩ := H
                  obtain ⟨ASz10_0, cSz10_0, HGz10, hgz10, HSz10_0⟩ := HI0.out
                  have hcz10_0 := cellS41_0 HGz10
                  have hcz10_1 := cellS41_1 HGz10
                  have hcz10_2 := cellS41_2 HGz10
                  have hfz10_1 := blk_frozen HGz10 1
                  have hfz10_2 := blk_frozen HGz10 2
                  clear HGz10 hgz10
                  have p101 : 0 ≤ (x1001_1 : Int) := of_decide_eq_true (by first | (with_reducible assumption) | assumption)
                  have q101 : x1001_1 < (s0_0.length : Int) := of_decide_eq_true (by first | (with_reducible assumption) | assumption)
                  obtain ⟨ad101, e101, hx101_0⟩ := Kd.at_int HSz10_0 x1001_1 p101 q101
                  cases e101
                  replace hx101_0 := pw_cell_below HB.out hx101_0
                  replace p101 := eq_true p101
                  replace q101 := eq_true q101
                  go_wp2
                  repeat (go_quiet (fail); try go_wp2)
                  go_ret
                  exact ⟨by first | rfl | (simp [errW_none, errW_some] <;> rfl) | (simp only [← hji8]; first | rfl | (simp [errW_none, errW_some] <;> rfl)) | (simp [*, errW_none, errW_some] <;> rfl), by repeat (first | (with_reducible first | exact HI0.out | apply IsR41.alloc | apply IsR41.drewN | apply IsR41.drew | apply IsR41.set_1 | apply IsR41.set_2) | exact HI0.out), by repeat (first | (with_reducible first | exact HB.out | apply below_alloc | apply pw_below_drewN | apply below_drew1 | refine below_set ?_ (IsR41.ge HI0.out)) | exact HB.out), by repeat (first | (with_reducible first | exact HK.out | apply KeepBut.set_ | apply keep_drewN | apply keep_drew | apply keep_alloc) | exact HK.out)⟩
                · rw [if_neg c9] at H
                  have c9b0 : decide ((rd s0_0 x1001_1) < 128) = false := decide_eq_false c9
                  clear c9
                  have H' := Aside0.mk H
                  clear H
                  obtain ⟨ASz11_0, cSz11_0, HGz11, hgz11, HSz11_0⟩ := HI0.out
                  have hcz11_0 := cellS41_0 HGz11
                  have hcz11_1 := cellS41_1 HGz11
                  have hcz11_2 := cellS41_2 HGz11
                  have hfz11_1 := blk_frozen HGz11 1
                  have hfz11_2 := blk_frozen HGz11 2
                  clear HGz11 hgz11
                  have p101 : 0 ≤ (x1001_1 : Int) := of_decide_eq_true (by first | (with_reducible assumption) | assumption)
                  have q101 : x1001_1 < (s0_0.length : Int) := of_decide_eq_true (by first | (with_reducible assumption) | assumption)
                  obtain ⟨ad101, e101, hx101_0⟩ := Kd.at_int HSz11_0 x1001_1 p101 q101
                  cases e101
                  replace hx101_0 := pw_cell_below HB.out hx101_0
                  replace p101 := eq_true p101
                  replace q101 := eq_true q101
                  go_wp2
                  repeat (go_quiet (fail); try go_wp2)
                  go_roundg k1
                  case measure => have := HK1.out; omega
                  case rel => exact ⟨(wrap64 (x3_1 + (ji8))), (IntKind.u64.wrap (x4_1 + 7)), (wrap64 (x1001_1 + 1)), (x1002_1), (by first | rfl | (simp; done) | (simp only [← hji8] <;> (first | rfl | simp)) | (simp [*]; done)), (by first | rfl | (simp; done) | (simp [*]; done)), H', ⟨by have := HK1.out; omega⟩, ⟨by repeat (first | (with_reducible first | exact HI0.out | apply IsR41.alloc | apply IsR41.drewN | apply IsR41.drew | apply IsR41.set_1 | apply IsR41.set_2) | exact HI0.out)⟩, ⟨by repeat (first | (with_reducible first | exact HK.out | apply KeepBut.set_ | apply keep_drewN | apply keep_drew | apply keep_alloc) | exact HK.out)⟩, ⟨by repeat (first | (with_reducible first | exact HB.out | apply below_alloc | apply pw_below_drewN | apply below_drew1 | refine below_set ?_ (IsR41.ge HI0.out)) | exact HB.out)⟩⟩
              · rw [if_neg c7] at H
                exact absurd H (by simp)
            · rw [if_neg c6] at H
              exact absurd H (by simp)
          · rw [if_neg c5] at H
            exact absurd H (by simp)
      · rw [if_neg c2] at H
        have c2b0 : decide (x4_1 < 28) = false := decide_eq_false c2
        clear c2
        simp only [Option.some.injEq, Prod.mk.injEq] at H
        obtain ⟨rfl, rfl, rfl⟩ := H
        obtain ⟨ASz12_0, cSz12_0, HGz12, hgz12, HSz12_0⟩ := HI0.out
        have hcz12_0 := cellS41_0 HGz12
        have hcz12_1 := cellS41_1 HGz12
        have hcz12_2 := cellS41_2 HGz12
        have hfz12_1 := blk_frozen HGz12 1
        have hfz12_2 := blk_frozen HGz12 2
        clear HGz12 hgz12
        go_wp2
        repeat (go_quiet (fail); try go_wp2)
        go_ret
        exact ⟨by first | rfl | (simp [errW_none, errW_some] <;> rfl) | (simp [*, errW_none, errW_some] <;> rfl), by repeat (first | (with_reducible first | exact HI0.out | apply IsR41.alloc | apply IsR41.drewN | apply IsR41.drew | apply IsR41.set_1 | apply IsR41.set_2) | exact HI0.out), by repeat (first | (with_reducible first | exact HB.out | apply below_alloc | apply pw_below_drewN | apply below_drew1 | refine below_set ?_ (IsR41.ge HI0.out)) | exact HB.out), by repeat (first | (with_reducible first | exact HK.out | apply KeepBut.set_ | apply keep_drewN | apply keep_drew | apply keep_alloc) | exact HK.out)⟩
end Go.Proofs.Ythofgkmfllccnaa.G
namespace Go.Proofs.Ythofgkmfllccnaa.G
open Go.RowKit Go.Proofs.YthofgkmfllccnaaW.PrintWords Go.Proofs.YthofgkmfllccnaaW.PrintLast Go.Proofs.YthofgkmfllccnaaW.PrintMore
set_option linter.unusedVariables false
set_option linter.unusedSimpArgs false
def Rdr (w0 w : World) (g : Nat) (b : List Int) (A : Option Addr) (c i : Nat) (bad : Bool) : Prop :=
  w.heap[g]? = some (.cells #[.slice A b.length c, .int .i64 (i : Int), .bool bad] 41 (0, 0)) ∧ (w0.heap.size ≤ g ∧ b.length ≤ c) ∧ Kd.C (Kd.int .u8) w0 A b.length b
theorem Rdr.of {w0 w : World} {g : Nat} {b : List Int} {i : Nat} {bad : Bool} (h : IsR41 w0 w g b (i : Int) bad) : ∃ A c, Rdr w0 w g b A c i bad := by
  obtain ⟨A, c, h1, h2, h3⟩ := h
  exact ⟨A, c, h1, h2, h3⟩
theorem l10Read_c {w0 w : World} {g i : Nat} {b : List Int} {bad : Bool} (hI : IsR41 w0 w g b (i : Int) bad) (hB : Below w0.heap.size w0 w) (hb : Bytes b) (hl : b.length ≤ 1048576) (hi : i ≤ b.length) :
    Calls Try.prog 21 #[.pointer (some ⟨g, 0, none⟩)] w fun e w' => ∃ (V I : Nat) (B : Bool), e = .returned (.int .i64 (V : Int)) ∧ IsR41 w0 w' g b (I : Int) B ∧ Below w0.heap.size w0 w' ∧ KeepBut w w' g none ∧
      i ≤ I ∧ I ≤ b.length ∧ V < 268435456 ∧ (rv b 4 true i = none → B = true) ∧ ∀ p, rv b 4 true i = some p → V = p.1 ∧ I = p.2.1 ∧ B = bad := by
  obtain ⟨V, I, B, hE, h⟩ := l10_ev hb hl bad i hi
  obtain ⟨k, hk⟩ := hE.rounds
  refine (spec_l10Read.callsR k g b (i : Int) bad (V : Int) (I : Int) B w0 w hI hB hk).mono ?_
  rintro e w' ⟨h1, h2, h3, h4⟩
  exact ⟨V, I, B, h1, h2, h3, h4, h⟩
def textAt (b : List Int) (i : Nat) (d : List Int) (I : Nat) (B : Bool) : Prop :=
  match rv b 4 true i with
  | none => B = true ∧ d = []
  | some p => if p.1 ≤ b.length - p.2.1 then d = (b.drop p.2.1).take p.1 ∧ I = p.2.1 + p.1 ∧ B = false else B = true ∧ d = []
theorem textAt_bytes {b d : List Int} {i I : Nat} {B : Bool} (hb : Bytes b) (h : textAt b i d I B) : Bytes d ∧ d.length ≤ b.length := by
  unfold textAt at h
  split at h
  · obtain ⟨_, rfl⟩ := h
    exact ⟨fun x hx => absurd hx (by simp), Nat.zero_le _⟩
  · split at h
    · obtain ⟨rfl, _⟩ := h
      exact ⟨fun x hx => hb x (List.mem_of_mem_drop (List.mem_of_mem_take hx)), by rw [List.length_take, List.length_drop]; omega⟩
    · obtain ⟨_, rfl⟩ := h
      exact ⟨fun x hx => absurd hx (by simp), Nat.zero_le _⟩
set_option maxHeartbeats 4000000 in
set_option maxRecDepth 100000 in
theorem readText_c {w0 w : World} {g i : Nat} {b : List Int} (hI : IsR41 w0 w g b (i : Int) false) (hB : Below w0.heap.size w0 w) (hb : Bytes b) (hl : b.length ≤ 1048576) (hi : i ≤ b.length) :
    Calls Try.prog 22 #[.pointer (some ⟨g, 0, none⟩)] w fun e w' => ∃ (s : List Int) (I : Nat) (B : Bool), e = .returned (.string (strOfNums s)) ∧ IsR41 w0 w' g b (I : Int) B ∧ Below w0.heap.size w0 w' ∧ KeepBut w w' g none ∧
      i ≤ I ∧ I ≤ b.length ∧ textAt b i s I B := by
  have HI := Aside0.mk hI
  have HB := Aside0.mk hB
  have HBY := Aside0.mk hb
  clear hI hB hb
  go_enter Try.func22, Try.ntmps22
  go_wp2_with fail
  refine (l10Read_c HI.out HB.out HBY.out hl hi).mono ?_
  rintro e w1 ⟨V, I, B, rfl, hI1, hB1, hK1, hi1, hi2, hv, hn, hs⟩
  have HN := Aside0.mk hn
  have HS := Aside0.mk hs
  have HB1 := Aside0.mk hB1
  have HK1 := Aside0.mk hK1
  obtain ⟨A, c, hR⟩ := Rdr.of hI1
  have HR := Aside0.mk hR
  clear hn hs hB1 hK1 hI1 HI HB
  have x0 : w1.cell? ⟨g, 0, none⟩ = some (.slice A b.length c) := (blk_cell hR.1 0).trans rfl
  have x1 : w1.cell? ⟨g, 1, none⟩ = some (.int .i64 (I : Int)) := (blk_cell hR.1 1).trans rfl
  have x2 : w1.cell? ⟨g, 2, none⟩ = some (.bool B) := (blk_cell hR.1 2).trans rfl
  have f1 := blk_frozen hR.1 1
  have f2 := blk_frozen hR.1 2
  clear hR
  cases B with
  | true =>
    go_wp2_with fail
    go_quiet (fail)
    go_wp2_with fail
    go_ret
    refine ⟨[], I, true, rfl, ⟨A, c, blk_put (blk_drewN HR.out.1 _) 2 (.bool true) rfl, HR.out.2.1, HR.out.2.2⟩, (pw_below_drewN HB1.out _).setCell HR.out.2.1.1 _, KeepBut.set_ (w1 := w1.drewN _) HK1.out 2 _, hi1, hi2, ?_⟩
    unfold textAt
    cases hrv : rv b 4 true i with
    | none => exact ⟨rfl, rfl⟩
    | some p => exact absurd (HS.out p hrv).2.2 (by decide)
  | false =>
    cases hrv : rv b 4 true i with
    | none => exact absurd (HN.out hrv) (by decide)
    | some p =>
      obtain ⟨e1, e2, _⟩ := HS.out p hrv
      have HRV : Aside0 (rv b 4 true i = some (V, I, p.2.2)) := ⟨by rw [hrv, e1, e2]⟩
      clear hrv e1 e2 HN HS
      by_cases hV : V ≤ b.length - I
      · have hd : decide ((b.length : Int) - (I : Int) < (V : Int)) = false := decide_eq_false (by omega)
        have HTX : Aside0 (textAt b i ((b.drop I).take V) (I + V) false) := ⟨by unfold textAt; rw [HRV.out]; show (if V ≤ b.length - I then _ else _); rw [if_pos hV]; exact ⟨rfl, rfl, rfl⟩⟩
        go_wp2_with fail
        go_quiet (fail)
        go_wp2_with fail
        obtain ⟨W2, hW2⟩ : ∃ W2, W2 = (w1.drewN nq).setCell ⟨g, 1, none⟩ (.int .i64 ((I : Int) + (V : Int))) := ⟨_, rfl⟩
        have hR2 : W2.heap[g]? = some (.cells #[.slice A b.length c, .int .i64 ((I + V : Nat) : Int), .bool false] 41 (0, 0)) := by
          rw [hW2]
          have := blk_put (blk_drewN HR.out.1 nq) 1 (.int .i64 ((I : Int) + (V : Int))) rfl
          simpa using this
        have hB2 : Below w0.heap.size w0 W2 := by rw [hW2]; exact (pw_below_drewN HB1.out _).setCell HR.out.2.1.1 _
        have hK2 : KeepBut w W2 g none := by rw [hW2]; exact KeepBut.set_ (w1 := w1.drewN _) HK1.out 1 _
        rw [← hW2]
        have HR2 := Aside0.mk hR2
        have HB2 := Aside0.mk hB2
        have HK2 := Aside0.mk hK2
        clear x0 x1 x2 f1 f2 hW2 hB2 hK2
        have x0 : W2.cell? ⟨g, 0, none⟩ = some (.slice A b.length c) := (blk_cell hR2 0).trans rfl
        have x1 : W2.cell? ⟨g, 1, none⟩ = some (.int .i64 ((I + V : Nat) : Int)) := (blk_cell hR2 1).trans rfl
        clear hR2
        obtain ⟨A', hA'⟩ : ∃ A', A' = (if c = I then A else A.map (·.add I)) := ⟨_, rfl⟩
        have hbc : b.length ≤ c := HR.out.2.1.2
        have hC' : ∀ n, Kd.C (Kd.int .u8) (W2.drewN n) A' V ((b.drop I).take V) := fun n => by
          rw [hA']
          exact C_mid (Kd.C_below HR.out.2.2 (pw_below_drewN HB2.out n)) hbc hi2 hV
        obtain ⟨J, hJ⟩ : ∃ J, J = I + V := ⟨_, rfl⟩
        have hw : IntKind.i64.wrap ((J : Int) - (V : Int)) = (I : Int) := by rw [IntKind.wrap_i64]; omega
        have hcut : ∀ W : World, (Instr.slice 22 (.slice A b.length c) (some (.int .i64 (I : Int))) (some (.int .i64 (J : Int))) none).run Try.prog W = .ok (.slice A' V (c - I)) W := by
          obtain ⟨i0, hi0, hz0⟩ := Option.map_eq_some_iff.1 info5
          simp only [Prod.mk.injEq] at hz0
          have h := cut_mid (P := Try.prog) 22 5 .i64 .i64 Try.underlying22 hi0 1 hz0.2.1 A b.length c (I : Int) (J : Int) (by omega) (by omega) (by omega) hbc
          intro W
          rw [h W, hA']
          simp only [Int.toNat_natCast, Nat.mul_one]
          rw [show J - I = V by omega]
        have hcv : ∀ n, (convert 22 9 (.slice A' V (c - I))).run Try.prog (W2.drewN n) = .ok (.string (strOfNums ((b.drop I).take V))) (W2.drewN n) := fun n => by
          have e : ((b.drop I).take V).length = V := by rw [List.length_take, List.length_drop]; omega
          have h := Kd.C_string (P := Try.prog) (w := W2.drewN n) (A := A') (n := V) (c := c - I) Try.underlying22 Try.underlying5 Try.underlying9 (xs := (b.drop I).take V) (hC' n)
          exact h
        rw [← hJ] at x1 HTX HR2
        have HJ := Aside0.mk hJ
        clear hJ hbc
        clear hC' hA'
        go_quiet (fail)
        go_wp2_with fail
        go_ret
        exact ⟨_, J, false, rfl, ⟨A, c, HR2.out, HR.out.2.1, HR.out.2.2⟩, pw_below_drewN HB2.out _, keep_drewN HK2.out _, by have := HJ.out; omega, by have := HJ.out; omega, HTX.out⟩
      · have hd : decide ((b.length : Int) - (I : Int) < (V : Int)) = true := decide_eq_true (by omega)
        have HTX : Aside0 (textAt b i [] I true) := ⟨by unfold textAt; rw [HRV.out]; simp [hV]⟩
        go_wp2_with fail
        go_quiet (fail)
        go_wp2_with fail
        go_ret
        exact ⟨[], I, true, rfl, ⟨A, c, blk_put (blk_drewN HR.out.1 _) 2 (.bool true) rfl, HR.out.2.1, HR.out.2.2⟩, (pw_below_drewN HB1.out _).setCell HR.out.2.1.1 _, KeepBut.set_ (w1 := w1.drewN _) HK1.out 2 _, hi1, hi2, HTX.out⟩
end Go.Proofs.Ythofgkmfllccnaa.G
namespace Go.Proofs.Ythofgkmfllccnaa.G
open Go.RowKit Go.Proofs.YthofgkmfllccnaaW.PrintWords Go.Proofs.YthofgkmfllccnaaW.PrintLast Go.Proofs.YthofgkmfllccnaaW.PrintMore
attribute [local go_sem] max2_int min2_int max_two min_two max_three min_three max_four min_four
set_option linter.unusedVariables false
set_option linter.unusedSimpArgs false
def spec_l10Same.f (l0 : List Int) (l1 : List Int) : Option (Bool) := some ((strOfNums l0).toList == (strOfNums l1).toList)
set_option maxHeartbeats 8000000 in
set_option maxRecDepth 100000 in
theorem spec_l10Same.calls (A0 : Option Addr) (c0 : Nat) (l0 : List Int) (A1 : Option Addr) (c1 : Nat) (l1 : List Int) (r : Bool) (w : World) (hr0 : Kd.C (Kd.int .u8) w A0 l0.length l0) (hc0 : l0.length ≤ c0) (hr1 : Kd.C (Kd.int .u8) w A1 l1.length l1) (hc1 : l1.length ≤ c1) (h : spec_l10Same.f l0 l1 = some r) :
    Calls Try.prog 23 #[.slice A0 l0.length c0, .slice A1 l1.length c1] w fun e w' => e = .returned (.bool r) ∧ Drawn0 w w' := by
  have HR0 := Aside0.mk hr0
  have HC0 := Aside0.mk hc0
  clear hr0 hc0
  have HR1 := Aside0.mk hr1
  have HC1 := Aside0.mk hc1
  clear hr1 hc1
  have H : (some ((strOfNums l0).toList == (strOfNums l1).toList)) = some r := h
  clear h
  obtain rfl := Option.some.inj H
  have hcv3 := Kd.C_string (P := Try.prog) (A := A0) (c := c0) Try.underlying22 Try.underlying5 Try.underlying9 HR0.out
  have hcv4 := Kd.C_string (P := Try.prog) (A := A1) (c := c1) Try.underlying22 Try.underlying5 Try.underlying9 HR1.out
  go_enter Try.func23, Try.ntmps23
  go_wp2
  go_ret
  exact ⟨by first | rfl | (simp; done) | (simp [*]; done), by repeat (first | exact Drawn0.refl _ | apply Drawn0.step)⟩
end Go.Proofs.Ythofgkmfllccnaa.G
namespace Go.Proofs.Ythofgkmfllccnaa.G
open Go.RowKit Go.Proofs.YthofgkmfllccnaaW.PrintWords Go.Proofs.YthofgkmfllccnaaW.PrintLast Go.Proofs.YthofgkmfllccnaaW.PrintMore
set_option linter.unusedVariables false
set_option linter.unusedSimpArgs false
theorem strOf_data (b : List Int) : (strOfNums b).data.toList = b.map fun n => UInt8.ofNat n.toNat := by
  show ((b.map fun n => UInt8.ofNat n.toNat).toArray).toList = _
  simp
theorem below_bytes (w : World) (s : ByteArray) : Below w.heap.size w (Lib.bytesWorld w 5 s) :=
  ⟨rfl, rfl, rfl, by rw [Lib.bytesWorld_size]; omega, fun k hk => Lib.bytesWorld_at_old w 5 s k hk⟩
theorem bytes_F {xs : List Int} (hb : Bytes xs) (hl : xs.length ≤ 1048576) (w : World) :
    Kd.F (Kd.int .u8) (Lib.bytesWorld w 5 (strOfNums xs)) (fun k => k = w.heap.size) (some ⟨w.heap.size, 0, none⟩) xs.length xs := by
  intro W' hW
  have hh := (hW w.heap.size rfl (by rw [Lib.bytesWorld_size]; omega)).trans (Lib.bytesWorld_at_new w 5 (strOfNums xs))
  refine ⟨rfl, by omega, fun _ => ⟨⟨w.heap.size, 0, none⟩, rfl, fun j p hp => ⟨[.int .u8 p], rfl, rfl, fun i u hu => ?_⟩⟩⟩
  have hi : i = 0 := by
    have := (List.getElem?_eq_some_iff.1 hu).1
    simp at this
    exact this
  subst hi
  obtain rfl : Value.int .u8 p = u := by simpa using hu
  rw [add_plain]
  have e1 : j * (Kd.int .u8).sz + 0 = j := by show j * 1 + 0 = j; omega
  rw [e1]
  have hj := (List.getElem?_eq_some_iff.1 hp).1
  have h1 : W'.cell? ⟨w.heap.size, 0 + j, none⟩ = (Lib.bytesWorld w 5 (strOfNums xs)).cell? ⟨w.heap.size, j, none⟩ := by
    rw [Nat.zero_add]
    unfold World.cell?
    rw [hh, Lib.bytesWorld_at_new]
  refine Eq.trans (by simpa using h1) ?_
  rw [Lib.bytesWorld_cell _ _ _ _ (by rw [strOf_size]; exact hj), strOf_data]
  have hx := hb p (List.mem_of_getElem? hp)
  rw [List.getD_eq_getElem?_getD, List.getElem?_map, hp]
  simp only [Option.map_some, Option.getD_some, UInt8.toNat_ofNat']
  congr 2
  omega
theorem bytes_conv (xs : List Int) (W : World) : (convert 9 22 (.string (strOfNums xs))).run Try.prog W = .ok (.slice (some ⟨W.heap.size, 0, none⟩) xs.length (grownCap W xs.length 0 5)) (Lib.bytesWorld W 5 (strOfNums xs)) := by
  have h := Lib.run_convert_string_bytes (P := Try.prog) W 9 22 5 (strOfNums xs) Try.underlying9 Try.underlying22 Try.underlying5
  rw [strOf_size] at h
  exact h
def closeF (b : List Int) : Option (List S43) → List S43 × Bool
  | none => ([], false)
  | some o => if dbytes o = b then (o, true) else ([], false)
theorem loose_close {b : List Int} (h : b.take 4 = hdr) : looseF b = closeF b (steps (one2 b) b (b.length + 1) 4 []) := by
  unfold looseF
  rw [if_pos h]
  cases steps (one2 b) b (b.length + 1) 4 [] <;> rfl
structure StS (b : List Int) (w wr : World) (gi : Nat) (v : Value) (out : List S43) (i : Nat) (bad : Bool) : Prop where
  at_ : IsR41 w wr gi b (i : Int) bad
  out_ : Kd.N k43 43 wr w.heap.size (fun k => k ≠ gi) v out
  below : Below w.heap.size w wr
  len : out.length ≤ 10000
  data : ∀ s ∈ out, s.f3.length ≤ 1048576
structure MidS (b : List Int) (w W : World) (gi gd : Nat) (v : Value) (out : List S43) (i : Nat) (bad : Bool) (cs : Array Value) : Prop where
  at_ : IsR41 w W gi b (i : Int) bad
  out_ : Kd.N k43 43 W w.heap.size (fun k => k ≠ gi ∧ k ≠ gd) v out
  below : Below w.heap.size w W
  step : W.heap[gd]? = some (.cells cs 43 (0, 0))
  ne : gi ≠ gd
  ge : w.heap.size ≤ gd
theorem StS.mid {b : List Int} {w wr : World} {gi i : Nat} {v : Value} {out : List S43} {bad : Bool} (h : StS b w wr gi v out i bad) (cs : Array Value) {z : Int} {j : Nat} (hz : z = (j : Int)) :
    MidS b w ((wr.setCell ⟨gi, 1, none⟩ (.int .i64 z)).alloc (.cells cs 43)) gi wr.heap.size v out j bad cs := by
  subst hz
  have hs : (wr.setCell ⟨gi, 1, none⟩ (.int .i64 (j : Int))).heap.size = wr.heap.size := by simp [World.setCell]
  have hN := Kd.N_far h.out_ (p := ⟨gi, 1, none⟩) (fun k hk => hk) (.int .i64 (j : Int))
  have hB := h.below.setCell h.at_.ge (p := ⟨gi, 1, none⟩) (.int .i64 (j : Int))
  refine ⟨(h.at_.set_1 (j : Int)).alloc _, Kd.N_alloc (Kd.N_elderB hN wr.heap.size (by rw [hs]; exact Nat.le_refl _)) _, below_alloc hB _, ?_, ?_, h.below.size⟩
  · have := blk_new (wr.setCell ⟨gi, 1, none⟩ (.int .i64 (j : Int))) (.cells cs 43)
    rw [hs] at this
    exact this
  · have := h.at_.lt
    omega
theorem MidS.move {b : List Int} {w W W' : World} {gi gd i j : Nat} {v : Value} {out : List S43} {bad bad' : Bool} {cs : Array Value} (h : MidS b w W gi gd v out i bad cs) (hk : KeepBut W W' gi none) (hI : IsR41 w W' gi b (j : Int) bad') (hB : Below w.heap.size w W') : MidS b w W' gi gd v out j bad' cs :=
  ⟨hI, Kd.N_keep h.out_ hk (fun _ hk => hk.1), hB, (hk.2 gd (blk_lt h.step) (Ne.symm h.ne) (by simp)).trans h.step, h.ne, h.ge⟩
theorem MidS.set {b : List Int} {w W : World} {gi gd i : Nat} {v : Value} {out : List S43} {bad : Bool} {cs : Array Value} (h : MidS b w W gi gd v out i bad cs) (j : Nat) (u : Value) : MidS b w (W.setCell ⟨gd, j, none⟩ u) gi gd v out i bad (cs.setIfInBounds j u) := by
  obtain ⟨A, c, h1, h2, h3⟩ := h.at_
  refine ⟨⟨A, c, blk_far h1 h.ne u, h2, h3⟩, Kd.N_far h.out_ (p := ⟨gd, j, none⟩) (fun k hk => hk.2) u, h.below.setCell h.ge _, ?_, h.ne, h.ge⟩
  simp [World.setCell, Array.getElem?_modify, h.step]
theorem C_none (W : World) (A : Option Addr) : Kd.C k43 W A 0 [] := ⟨rfl, by decide, fun h => absurd h (by decide)⟩
theorem MidS.done {b : List Int} {w W W' : World} {gi gd i : Nat} {v v' : Value} {out : List S43} {bad : Bool} {cs : Array Value} {s : S43} (h : MidS b w W gi gd v out i bad cs) (hg : W.grownBy W' v.ownBlock) (ho : Kd.N k43 43 W' w.heap.size (fun k => k ≠ gi) v' (out ++ [s])) (hb : Below w.heap.size w W')
    (hl : ¬ 10000 < (out ++ [s]).length) (hd : ∀ s ∈ out, s.f3.length ≤ 1048576) (hs : s.f3.length ≤ 1048576) : StS b w W' gi v' (out ++ [s]) i bad := by
  obtain ⟨A, c, h1, h2, h3⟩ := h.at_
  refine ⟨h.at_.grown hg (Kd.N_ne h.out_ h1 (by decide)), ho, hb, by omega, fun y hy => ?_⟩
  rcases List.mem_append.1 hy with hy | hy
  · exact hd y hy
  · rw [List.mem_singleton.1 hy]; exact hs
theorem two_reads {b : List Int} {i V1 I1 V2 I2 : Nat} {B1 B2 : Bool} (hn1 : rv b 4 true (i + 1) = none → B1 = true) (hs1 : ∀ p, rv b 4 true (i + 1) = some p → V1 = p.1 ∧ I1 = p.2.1 ∧ B1 = false)
    (hn2 : rv b 4 true I1 = none → B2 = true) (hs2 : ∀ p, rv b 4 true I1 = some p → V2 = p.1 ∧ I2 = p.2.1 ∧ B2 = B1) : one2 b i 1 = if B2 = true then none else some (⟨1, V1, V2, []⟩, I2) := by
  unfold one2
  rw [if_pos rfl]
  cases e1 : rv b 4 true (i + 1) with
  | none =>
    have h1 := hn1 e1
    have h2 : B2 = true := by
      cases e2 : rv b 4 true I1 with
      | none => exact hn2 e2
      | some q => rw [(hs2 q e2).2.2, h1]
    rw [h2]; rfl
  | some p =>
    obtain ⟨rfl, rfl, rfl⟩ := hs1 p e1
    rw [Option.bind_some]
    cases e2 : rv b 4 true p.2.1 with
    | none => rw [hn2 e2]; rfl
    | some q =>
      obtain ⟨rfl, rfl, rfl⟩ := hs2 q e2
      rfl
theorem text_one {b D : List Int} {i I : Nat} {x : Int} {B : Bool} (hx : x ≠ 1) (h : textAt b (i + 1) D I B) : one2 b i x = if B = true then none else some (⟨x, 0, 0, D⟩, I) := by
  unfold one2
  unfold textAt at h
  rw [if_neg hx]
  cases e : rv b 4 true (i + 1) with
  | none =>
    rw [e] at h
    rw [h.1]; rfl
  | some p =>
    rw [e] at h
    simp only at h
    rw [Option.bind_some]
    split at h
    · rename_i hc
      obtain ⟨rfl, rfl, rfl⟩ := h
      rw [if_pos hc]; rfl
    · rename_i hc
      rw [if_neg hc, h.1]; rfl
theorem MidS.later {b : List Int} {w W W' : World} {gi gd i : Nat} {v : Value} {out : List S43} {bad : Bool} {cs : Array Value} (h : MidS b w W gi gd v out i bad cs) (hb : Below W.heap.size W W') : MidS b w W' gi gd v out i bad cs :=
  h.move (KeepBut.of_below hb gi none) (h.at_.below hb) (below_then h.below h.below.size hb)
theorem num_bytes : ∀ (m n : Nat), n ≤ m → Bytes (num n)
  | 0, n, h => by
    obtain rfl : n = 0 := by omega
    rw [num_lt (by omega)]
    intro x hx
    rw [List.mem_singleton.1 hx]; decide
  | m + 1, n, h => by
    by_cases hn : 128 ≤ n
    · rw [num_ge hn]
      intro x hx
      rcases List.mem_cons.1 hx with rfl | hx
      · omega
      · exact num_bytes m (n / 128) (by omega) x hx
    · rw [num_lt (by omega)]
      intro x hx
      rw [List.mem_singleton.1 hx]; omega
theorem Bytes.append {a b : List Int} (ha : Bytes a) (hb : Bytes b) : Bytes (a ++ b) := fun x hx => (List.mem_append.1 hx).elim (ha x) (hb x)
theorem enc_bytes (s : S43) (h : Bytes s.f3) : Bytes (encS s) := by
  unfold encS
  intro x hx
  rcases List.mem_cons.1 hx with rfl | hx
  · omega
  · split at hx
    · exact (num_bytes _ _ (Nat.le_refl _)).append (num_bytes _ _ (Nat.le_refl _)) x hx
    · exact (num_bytes _ _ (Nat.le_refl _)).append h x hx
theorem dbytes_bytes (o : List S43) (h : ∀ s ∈ o, Bytes s.f3) : Bytes (dbytes o) := by
  unfold dbytes
  split
  · refine Bytes.append (by unfold hdr Bytes; decide) (fun x hx => ?_)
    obtain ⟨s, hs, hx⟩ := List.mem_flatMap.1 hx
    exact enc_bytes s (h s hs) x hx
  · exact fun x hx => absurd hx (by simp)
theorem one2_bytes {b : List Int} (hb : Bytes b) {i j : Nat} {x : Int} {s : S43} (h : one2 b i x = some (s, j)) : Bytes s.f3 := by
  unfold one2 at h
  split at h
  · obtain ⟨p, _, h⟩ := Option.bind_eq_some_iff.1 h
    obtain ⟨q, _, h⟩ := Option.bind_eq_some_iff.1 h
    simp only [Option.some.injEq, Prod.mk.injEq] at h
    obtain ⟨rfl, _⟩ := h
    exact fun x hx => absurd hx (by simp)
  · obtain ⟨p, _, h⟩ := Option.bind_eq_some_iff.1 h
    split at h
    · simp only [Option.some.injEq, Prod.mk.injEq] at h
      obtain ⟨rfl, _⟩ := h
      exact fun x hx => hb x (List.mem_of_mem_drop (List.mem_of_mem_take hx))
    · cases h
theorem steps_bytes {b : List Int} (hb : Bytes b) : ∀ (f i : Nat) (out r : List S43), (∀ s ∈ out, Bytes s.f3) → steps (one2 b) b f i out = some r → ∀ s ∈ r, Bytes s.f3
  | 0, i, out, r, _, h => by cases h
  | f + 1, i, out, r, ho, h => by
    unfold steps at h
    cases hx : b[i]? with
    | none =>
      rw [hx] at h
      obtain rfl := Option.some.inj h
      exact ho
    | some x =>
      rw [hx] at h
      obtain ⟨⟨s, j⟩, e1, h⟩ := Option.bind_eq_some_iff.1 h
      obtain ⟨o, e2, h⟩ := Option.bind_eq_some_iff.1 h
      obtain ⟨rfl, _⟩ := more_some e2
      refine steps_bytes hb f j _ r (fun y hy => ?_) h
      rcases List.mem_append.1 hy with hy | hy
      · exact ho y hy
      · rw [List.mem_singleton.1 hy]; exact one2_bytes hb e1
theorem same_ev {a b : List Int} (ha : Bytes a) (hb : Bytes b) : spec_l10Same.f a b = some (decide (a = b)) := by
  unfold spec_l10Same.f
  congr 1
  rw [Bool.eq_iff_iff, beq_iff_eq, decide_eq_true_eq]
  exact ⟨fun h => strOf_inj ha hb (toList_inj h), fun h => by rw [h]⟩
set_option maxHeartbeats 8000000 in
set_option maxRecDepth 100000 in
theorem specRead_c {b : List Int} {A : Option Addr} {c : Nat} {w : World} (hC : Kd.C (Kd.int .u8) w A b.length b) (hc : b.length ≤ c) (hb : Bytes b) (hl : b.length ≤ 1048576) :
    Calls Try.prog 5 #[.slice A b.length c] w fun e w' => ∃ A1 c1, e = .returned (.tuple #[.slice A1 (looseF b).1.length c1, .bool (looseF b).2]) ∧ (looseF b).1.length ≤ c1 ∧ Kd.C k43 w' A1 (looseF b).1.length (looseF b).1 ∧ Below w.heap.size w w' := by
  have hu43 := Try.underlying43
  have HC := Aside0.mk hC
  have HCC := Aside0.mk hc
  have HBY := Aside0.mk hb
  clear hC hc hb
  have h4 : hdr.length = 4 := rfl
  by_cases hn4 : b.length < 4
  · have hd4 : decide ((b.length : Int) < 4) = true := decide_eq_true (by omega)
    have hd4n : decide (b.length < 4) = true := decide_eq_true hn4
    have HS : Aside0 (looseF b = ([], false)) := ⟨by
      unfold looseF
      rw [if_neg]
      intro h
      have := congrArg List.length h
      rw [List.length_take, h4] at this
      omega⟩
    have hB0 := below_alloc (Below.refl w.heap.size w) (.cells #[] 43)
    go_enter Try.func5, Try.ntmps5
    go_wp2_with fail
    go_ret2
    rw [HS.out]
    exact ⟨_, _, rfl, Nat.le_refl _, C_none _ _, hB0⟩
  · have hd4 : decide ((b.length : Int) < 4) = false := decide_eq_false (by omega)
    have hd4n : decide (b.length < 4) = false := decide_eq_false (by omega)
    by_cases hh : b.take 4 = hdr
    · have hcut : ∀ W : World, (Instr.slice 22 (.slice A b.length c) none (some (.int .i64 4)) none).run Try.prog W = .ok (.slice A 4 c) W := by
        obtain ⟨i0, hi0, hz0⟩ := Option.map_eq_some_iff.1 info5
        exact cut_to (P := Try.prog) 22 5 .i64 Try.underlying22 hi0 A b.length c 4 (by decide) (by omega) HCC.out
      have hcv := fun (W : World) (hW : Below w.heap.size w W) => Kd.C_string (P := Try.prog) (A := A) (n := 4) (c := c) (xs := b.take 4) Try.underlying22 Try.underlying5 Try.underlying9 (by
        have h := Kd.C_take (Kd.C_below HC.out hW) (m := 4) (by omega)
        have e : (b.take 4).length = 4 := by rw [List.length_take]; omega
        rw [e] at h
        exact h)
      have hB0 := below_alloc (Below.refl w.heap.size w) (.cells #[] 43)
      have hcv0 := hcv _ hB0
      have hstr : strOfNums (b.take 4) = ⟨#[76, 68, 84, 49]⟩ := by rw [hh]; rfl
      rw [hstr] at hcv0
      clear hcv hstr
      obtain ⟨R, hR⟩ : ∃ R, R = steps (one2 b) b (b.length + 1) 4 [] := ⟨_, rfl⟩
      have HS : Aside0 (looseF b = closeF b R) := ⟨by rw [hR]; exact loose_close hh⟩
      have HR := Aside0.mk hR.symm
      clear hR hh
      obtain ⟨W1, hW1⟩ : ∃ W1, W1 = (w.alloc (.cells #[] 43)).alloc (.cells #[.slice A b.length c, .int .i64 4, .bool false] 41) := ⟨_, rfl⟩
      obtain ⟨gi, hgi⟩ : ∃ gi, gi = w.heap.size + 1 := ⟨_, rfl⟩
      have hB1 : Below w.heap.size w W1 := by rw [hW1]; exact below_alloc hB0 _
      have hI1 : IsR41 w W1 gi b ((4 : Nat) : Int) false := by
        have h := IsR41.new w (w.alloc (.cells #[] 43)) A c b 4 false hB0 HC.out HCC.out
        rw [hW1, hgi]
        simpa using h
      have hs1 : W1.heap.size = gi + 1 := by rw [hW1, hgi]; simp
      go_enter Try.func5, Try.ntmps5
      go_wp2_with (first | ((with_reducible refine gate_dst (N := 22) rfl ?_); rw [← hW1]; refine Kd.N_lit k43 (w0 := w) w.heap.size 43 ?hg (N' := 22) ?hd (xs := ([] : List S43)) (inner := []) (ok := fun k => k ≠ gi) (okp := fun _ => False) ?hr ?hp (fun _ hk => hk.elim) (show W1.heap.size ≠ gi by omega) hB1 hB1.size (by simp) ?_; (case hd => rfl); (case hg => rfl); (case hr => first | (go_simp; done) | (go_simp; rfl)); (case hp => exact (Reps.none _ _)); intro v6 w3 ho6 hb3 hg3 hnew3) | fail)
      have HT : Aside0 (StS b w w3 gi v6 [] 4 false) := ⟨⟨hI1.grown hg3 (by simp), ho6, hb3, by simp, by simp⟩⟩
      rw [← hgi]
      clear hcut hcv0 hB0 hW1 hB1 hI1 hs1 ho6 hb3 hg3 hnew3 hgi
      go_loopg [6] (b.length + 1) (fun kq v6 wr => ∃ (i : Nat) (out : List S43) (bad : Bool), i ≤ b.length ∧ Aside0 (b.length < i + kq) ∧ Aside0 (kq ≤ b.length + 1) ∧ Aside0 (if bad = true then R = none else steps (one2 b) b kq i out = R) ∧ Aside0 (StS b w wr gi v6 out i bad))
      case atStart => exact ⟨4, [], false, by omega, ⟨by omega⟩, ⟨Nat.le_refl _⟩, ⟨HR.out⟩, HT⟩
      case round =>
        have HR0 := HR
        clear HR HT
        obtain ⟨i, out, bad, hil, HF, HF1, HR, HT⟩ := hrel
        cases gk with
        | zero => exact absurd HF.out (by omega)
        | succ k1 =>
          obtain ⟨Ar, cr, hgr, hgr2, hcr⟩ := HT.out.at_
          have x0 : wr.cell? ⟨gi, 0, none⟩ = some (.slice Ar b.length cr) := (blk_cell hgr 0).trans rfl
          have x1 : wr.cell? ⟨gi, 1, none⟩ = some (.int .i64 (i : Int)) := (blk_cell hgr 1).trans rfl
          have x2 : wr.cell? ⟨gi, 2, none⟩ = some (.bool bad) := (blk_cell hgr 2).trans rfl
          have f1 := blk_frozen hgr 1
          have f2 := blk_frozen hgr 2
          have hgl : gi < wr.heap.size := blk_lt hgr
          clear hgr hgr2 hcr
          by_cases hlt : i < b.length
          · have hltd : decide ((i : Int) < (b.length : Int)) = true := decide_eq_true (by omega)
            cases bad with
            | false =>
              obtain ⟨ad, x, hA, hx, hcx⟩ := byte_at HC.out hlt
              subst hA
              have hxb := HBY.out x (List.mem_of_getElem? hx)
              replace hcx := (HT.out.below.cell (World.block_lt_of_cell? w _ hcx)).trans hcx
              have hst : steps (one2 b) b (k1 + 1) i out = R := HR.out
              rw [steps_some hx] at hst
              replace HR := Aside0.mk hst
              have HX := Aside0.mk hx
              clear hx hst
              by_cases h1 : x = 1
              · subst h1
                go_wp2_with fail
                have HM := Aside0.mk (HT.out.mid #[.int .i64 1, .int .i64 0, .int .i64 0, .slice none 0 0] (z := (i : Int) + 1) (j := i + 1) (by omega))
                refine (l10Read_c HM.out.at_ HM.out.below HBY.out hl (by omega)).mono ?_
                rintro e w2 ⟨V1, I1, B1, rfl, hI1, hB1, hK1, hi1, hj1, hv1, hn1, hs1⟩
                have HN1 := Aside0.mk hn1
                have HS1 := Aside0.mk hs1
                have HM1 := Aside0.mk (HM.out.move hK1 hI1 hB1)
                clear hn1 hs1 hI1 hB1 hK1 HM x0 x1 x2 f1 f2 hcx
                obtain ⟨gd, hgd⟩ : ∃ gd, gd = wr.heap.size := ⟨_, rfl⟩
                rw [← hgd] at HM1 hgl ⊢
                clear hgd
                have y1 : w2.cell? ⟨gd, 1, none⟩ = some (.int .i64 0) := (blk_cell HM1.out.step 1).trans rfl
                have e1 := blk_frozen HM1.out.step 1
                go_wp2_with fail
                refine (l10Read_c (HM1.out.set 1 _).at_ (HM1.out.set 1 _).below HBY.out hl hj1).mono ?_
                rintro e w3 ⟨V2, I2, B2, rfl, hI2, hB2, hK2, hi2, hj2, hv2, hn2, hs2⟩
                have HONE := Aside0.mk (two_reads HN1.out HS1.out hn2 hs2)
                have HM2 := Aside0.mk ((HM1.out.set 1 _).move hK2 hI2 hB2)
                clear hn2 hs2 hI2 hB2 hK2 HM1 HN1 HS1 y1 e1
                have y0 : w3.cell? ⟨gd, 0, none⟩ = some (.int .i64 1) := (blk_cell HM2.out.step 0).trans rfl
                have y1 : w3.cell? ⟨gd, 1, none⟩ = some (.int .i64 (V1 : Int)) := (blk_cell HM2.out.step 1).trans rfl
                have y2 : w3.cell? ⟨gd, 2, none⟩ = some (.int .i64 0) := (blk_cell HM2.out.step 2).trans rfl
                have y3 : w3.cell? ⟨gd, 3, none⟩ = some (.slice none 0 0) := (blk_cell HM2.out.step 3).trans rfl
                have e2 := blk_frozen HM2.out.step 2
                have hol : out.length ≤ 10000 := HT.out.len
                go_wp2_with (first | ((with_reducible refine gate_builtin (b := .append) (xs := #[.tmp 67, .tmp 69]) rfl ?_); at_builtin; refine Kd.N_append k43 (w0 := w) w.heap.size rfl (.tmp 67) (.tmp 69) 23 43 (.agg #[(.int .i64 0), (.int .i64 0), (.int .i64 0), (.slice none 0 0)]) 48 rfl Try.underlying23 info43 rfl (by decide) (by omega) u6 out (⟨1, V1, V2, ([] : List Int)⟩ : S43) [.int .i64 1, .int .i64 V1, .int .i64 V2, .slice none 0 0] (fun k => k ≠ gi) (fun _ => False) rfl ?aX ?aP (fun k_ hk_ => hk_.elim) ?aF ?aO ?aB ?aS ?aL ?_; (case aX => first | rfl | (show Value.slice (some ⟨w3.heap.size, 0, none⟩) 1 1 = _; simp [World.setCell])); (case aP => exact fun W' _ => k43_mk W' (⟨1, V1, V2, ([] : List Int)⟩ : S43) (Nat.le_refl _) (Kd.C_nil _ _)); (case aF => intro k_ hk_; have := (HM2.out.set 2 (.int .i64 (V2 : Int))).at_.lt; omega); (case aO => exact Kd.N_mono (HM2.out.set 2 _).out_ (fun k_ hk_ => hk_.1)); (case aB => exact (HM2.out.set 2 _).below); (case aS => exact (HM2.out.set 2 _).below.size); (case aL => omega); intro v4 w4 ho hb4 hg4 hat; obtain ⟨A4, c4, rfl⟩ := Kd.N_slice ho; have HO4 := Aside0.mk ho; have HB4 := Aside0.mk hb4; have HG4 := Aside0.mk hg4; clear ho hb4 hg4 hat y0 y1 y2 y3 e2) | fail)
                · have hr : R = none := by
                    rw [← HR.out, HONE.out]
                    cases B2 with
                    | true => rfl
                    | false =>
                      show (more out _).bind _ = none
                      rw [more_no (by simp; omega)]
                      rfl
                  have HRS := Aside0.mk hr
                  clear hr
                  go_ret2
                  rw [HS.out, HRS.out]
                  exact ⟨_, _, rfl, Nat.le_refl _, C_none _ _, HB4.out⟩
                · have hno : ¬ 10000 < (out ++ [(⟨1, V1, V2, ([] : List Int)⟩ : S43)]).length := by simp; omega
                  have HT4 := Aside0.mk ((HM2.out.set 2 (.int .i64 (V2 : Int))).done HG4.out HO4.out HB4.out hno HT.out.data (Nat.zero_le _))
                  have hnx : if B2 = true then R = none else steps (one2 b) b k1 I2 (out ++ [⟨1, V1, V2, []⟩]) = R := by
                    rw [← HR.out, HONE.out]
                    cases B2 with
                    | true => rfl
                    | false =>
                      show steps (one2 b) b k1 I2 (out ++ [⟨1, V1, V2, []⟩]) = (more out _).bind _
                      rw [more_yes hno]
                      rfl
                  have HNX := Aside0.mk hnx
                  clear hnx hno
                  go_roundg k1
                  case measure => have := HF1.out; omega
                  case rel => exact ⟨I2, _, B2, hj2, ⟨by have := HF.out; omega⟩, ⟨by have := HF1.out; omega⟩, HNX, ⟨by simpa using HT4.out⟩⟩
              · have h1d : (x == 1) = false := beq_eq_false_iff_ne.2 h1
                have hxw : IntKind.i64.wrap x = x := by rw [IntKind.wrap_i64]; omega
                go_wp2_with fail
                have HM := Aside0.mk (HT.out.mid #[.int .i64 x, .int .i64 0, .int .i64 0, .slice none 0 0] (z := (i : Int) + 1) (j := i + 1) (by omega))
                refine (readText_c HM.out.at_ HM.out.below HBY.out hl (by omega)).mono ?_
                rintro e w2 ⟨D, I1, B1, rfl, hI1, hB1, hK1, hi1, hj1, ht1⟩
                obtain ⟨hDb, hDl⟩ := textAt_bytes HBY.out ht1
                have HONE := Aside0.mk (text_one h1 ht1)
                have HM1 := Aside0.mk (HM.out.move hK1 hI1 hB1)
                clear ht1 hI1 hB1 hK1 HM x0 x1 x2 f1 f2 hcx
                obtain ⟨gd, hgd⟩ : ∃ gd, gd = wr.heap.size := ⟨_, rfl⟩
                rw [← hgd] at HM1 hgl ⊢
                clear hgd
                have hgdl : gd < w2.heap.size := blk_lt HM1.out.step
                obtain ⟨Wb, hWb⟩ : ∃ Wb, Wb = Lib.bytesWorld w2 5 (strOfNums D) := ⟨_, rfl⟩
                obtain ⟨gb, hgb⟩ : ∃ gb, gb = w2.heap.size := ⟨_, rfl⟩
                obtain ⟨cp, hcp⟩ : ∃ cp, cp = grownCap w2 D.length 0 5 := ⟨_, rfl⟩
                have hcpl : D.length ≤ cp := by rw [hcp]; exact grownCap_ge _ _ _ _
                have hkc := bytes_conv D w2
                have hF := bytes_F hDb (by omega) w2
                have hbb := below_bytes w2 (strOfNums D)
                have HM2 := Aside0.mk (HM1.out.later hbb)
                have hown : ∀ k, u6.ownBlock = some k → k ≠ gb := fun k hk => by have := Kd.N_lt HM1.out.out_ k hk; omega
                rw [← hWb, ← hcp, ← hgb] at hkc
                rw [← hWb, ← hgb] at hF
                rw [← hWb] at HM2
                rw [← hgb] at hgdl
                obtain ⟨dl, hdl⟩ : ∃ dl, dl = D.length := ⟨_, rfl⟩
                rw [← hdl] at hkc hF
                have HF5 := Aside0.mk hF
                have HDL := Aside0.mk hdl
                have HDB := Aside0.mk (show D.length ≤ 1048576 by omega)
                have HCP := Aside0.mk hcpl
                have HOW := Aside0.mk hown
                clear hWb hgb hcp hF hbb HM1 hdl hDb hDl hcpl hown
                have y0 : Wb.cell? ⟨gd, 0, none⟩ = some (.int .i64 x) := (blk_cell HM2.out.step 0).trans rfl
                have y1 : Wb.cell? ⟨gd, 1, none⟩ = some (.int .i64 0) := (blk_cell HM2.out.step 1).trans rfl
                have y2 : Wb.cell? ⟨gd, 2, none⟩ = some (.int .i64 0) := (blk_cell HM2.out.step 2).trans rfl
                have y3 : Wb.cell? ⟨gd, 3, none⟩ = some (.slice none 0 0) := (blk_cell HM2.out.step 3).trans rfl
                have e3 := blk_frozen HM2.out.step 3
                have hol : out.length ≤ 10000 := HT.out.len
                go_wp2_with (first | ((with_reducible refine gate_builtin (b := .append) (xs := #[.tmp 67, .tmp 69]) rfl ?_); at_builtin; refine Kd.N_append k43 (w0 := w) w.heap.size rfl (.tmp 67) (.tmp 69) 23 43 (.agg #[(.int .i64 0), (.int .i64 0), (.int .i64 0), (.slice none 0 0)]) 48 rfl Try.underlying23 info43 rfl (by decide) (by omega) u6 out (⟨x, 0, 0, D⟩ : S43) [.int .i64 x, .int .i64 0, .int .i64 0, .slice (some ⟨gb, 0, none⟩) dl cp] (fun k => k ≠ gi) (fun k => k = gb) rfl ?aX ?aP ?aK ?aF ?aO ?aB ?aS ?aL ?_; (case aX => first | rfl | (show Value.slice (some ⟨Wb.heap.size, 0, none⟩) 1 1 = _; simp [World.setCell])); (case aP => intro W' hW; have hF' := Kd.F_far HF5.out (p := ⟨gd, 3, none⟩) (fun k hk => by rw [hk]; exact Nat.ne_of_gt hgdl) (.slice (some ⟨gb, 0, none⟩) dl cp) W' hW; rw [HDL.out] at hF' ⊢; exact k43_mk W' (⟨x, 0, 0, D⟩ : S43) HCP.out hF'); (case aK => rintro k_ rfl; exact ⟨by omega, fun he => HOW.out _ he.symm rfl⟩); (case aF => intro k_ hk_; have := (HM2.out.set 3 (.int .i64 0)).at_.lt; simp [World.setCell] at this hk_; omega); (case aO => exact Kd.N_mono (HM2.out.set 3 _).out_ (fun k_ hk_ => hk_.1)); (case aB => exact (HM2.out.set 3 _).below); (case aS => exact (HM2.out.set 3 _).below.size); (case aL => omega); intro v4 w4 ho hb4 hg4 hat; obtain ⟨A4, c4, rfl⟩ := Kd.N_slice ho; have HO4 := Aside0.mk ho; have HB4 := Aside0.mk hb4; have HG4 := Aside0.mk hg4; clear ho hb4 hg4 hat y0 y1 y2 y3 e3 hkc) | fail)
                · have hr : R = none := by
                    rw [← HR.out, HONE.out]
                    cases B1 with
                    | true => rfl
                    | false =>
                      show (more out _).bind _ = none
                      rw [more_no (by simp; omega)]
                      rfl
                  have HRS := Aside0.mk hr
                  clear hr
                  go_ret2
                  rw [HS.out, HRS.out]
                  exact ⟨_, _, rfl, Nat.le_refl _, C_none _ _, HB4.out⟩
                · have hno : ¬ 10000 < (out ++ [(⟨x, 0, 0, D⟩ : S43)]).length := by simp; omega
                  have HT4 := Aside0.mk ((HM2.out.set 3 (.slice (some ⟨gb, 0, none⟩) dl cp)).done HG4.out HO4.out HB4.out hno HT.out.data HDB.out)
                  have hnx : if B1 = true then R = none else steps (one2 b) b k1 I1 (out ++ [⟨x, 0, 0, D⟩]) = R := by
                    rw [← HR.out, HONE.out]
                    cases B1 with
                    | true => rfl
                    | false =>
                      show steps (one2 b) b k1 I1 (out ++ [⟨x, 0, 0, D⟩]) = (more out _).bind _
                      rw [more_yes hno]
                      rfl
                  have HNX := Aside0.mk hnx
                  clear hnx hno
                  go_roundg k1
                  case measure => have := HF1.out; omega
                  case rel => exact ⟨I1, _, B1, hj1, ⟨by have := HF.out; omega⟩, ⟨by have := HF1.out; omega⟩, HNX, ⟨by simpa using HT4.out⟩⟩
            | true =>
              have HRS : Aside0 (R = none) := HR
              go_wp2_with fail
              go_ret2
              rw [HS.out, HRS.out]
              exact ⟨_, _, rfl, Nat.le_refl _, C_none _ _, HT.out.below⟩
          · have hltd : decide ((i : Int) < (b.length : Int)) = false := decide_eq_false (by omega)
            cases bad with
            | true =>
              have HRS : Aside0 (R = none) := HR
              go_wp2_with fail
              go_ret2
              rw [HS.out, HRS.out]
              exact ⟨_, _, rfl, Nat.le_refl _, C_none _ _, HT.out.below⟩
            | false =>
              have hst : steps (one2 b) b (k1 + 1) i out = R := HR.out
              rw [steps_none (List.getElem?_eq_none (by omega))] at hst
              subst hst
              have hbo := dbytes_bytes out (steps_bytes HBY.out _ _ _ _ (by simp) HR0.out)
              obtain ⟨A6, c6, rfl, hc6, hC6⟩ := Kd.N_reads HT.out.out_
              obtain ⟨k, hk⟩ := (dbytes_ev out HT.out.data).rounds
              have hsame := same_ev hbo HBY.out
              have HC6 := Aside0.mk hC6
              have HCC6 := Aside0.mk hc6
              clear hC6 hc6 HR0 HR
              go_wp2_with fail
              refine (spec_DeltaBytes.calls k A6 c6 out (dbytes out) wr HC6.out HCC6.out hk).mono ?_
              rintro e w5 ⟨v5, rfl, hRF, hB5⟩
              obtain ⟨A5, c5, rfl, hc5, hC5⟩ := RF_reads hRF
              clear hRF
              have HB5 := Aside0.mk (below_then HT.out.below HT.out.below.size hB5)
              have HB6 := Aside0.mk hB5
              have HC5 := Aside0.mk hC5
              have HCC5 := Aside0.mk hc5
              clear hB5 hC5 hc5 x0 x1 x2 f1 f2
              go_wp2_with fail
              refine (spec_l10Same.calls A5 c5 (dbytes out) A c b _ w5 HC5.out HCC5.out (Kd.C_below HC.out HB5.out) HCC.out hsame).mono ?_
              rintro e w7 ⟨rfl, hd7⟩
              have hb7 := drawn_b hd7
              have HB7 := Aside0.mk (below_then HB5.out HB5.out.size hb7)
              have HC7 := Aside0.mk (Kd.C_below (Kd.C_below HC6.out HB6.out) hb7)
              clear hd7 hb7
              by_cases hq : dbytes out = b
              · have hqd : decide (dbytes out = b) = true := decide_eq_true hq
                have HQ : Aside0 (closeF b (some out) = (out, true)) := ⟨by show (if dbytes out = b then (out, true) else ([], false)) = _; rw [if_pos hq]⟩
                clear hq
                go_wp2_with fail
                go_ret2
                rw [HS.out, HQ.out]
                exact ⟨_, _, rfl, HCC6.out, HC7.out, HB7.out⟩
              · have hqd : decide (dbytes out = b) = false := decide_eq_false hq
                have HQ : Aside0 (closeF b (some out) = ([], false)) := ⟨by show (if dbytes out = b then (out, true) else ([], false)) = _; rw [if_neg hq]⟩
                clear hq
                go_wp2_with fail
                go_ret2
                rw [HS.out, HQ.out]
                exact ⟨_, _, rfl, Nat.le_refl _, C_none _ _, HB7.out⟩
    · have hcut : ∀ W : World, (Instr.slice 22 (.slice A b.length c) none (some (.int .i64 4)) none).run Try.prog W = .ok (.slice A 4 c) W := by
        obtain ⟨i0, hi0, hz0⟩ := Option.map_eq_some_iff.1 info5
        exact cut_to (P := Try.prog) 22 5 .i64 Try.underlying22 hi0 A b.length c 4 (by decide) (by omega) HCC.out
      have hcv := fun (W : World) (hW : Below w.heap.size w W) => Kd.C_string (P := Try.prog) (A := A) (n := 4) (c := c) (xs := b.take 4) Try.underlying22 Try.underlying5 Try.underlying9 (by
        have h := Kd.C_take (Kd.C_below HC.out hW) (m := 4) (by omega)
        have e : (b.take 4).length = 4 := by rw [List.length_take]; omega
        rw [e] at h
        exact h)
      have hB0 := below_alloc (Below.refl w.heap.size w) (.cells #[] 43)
      have hcv0 := hcv _ hB0
      have hne : strOfNums (b.take 4) ≠ ⟨#[76, 68, 84, 49]⟩ := fun h => hh (strOf_inj (fun x hx => HBY.out x (List.mem_of_mem_take hx)) (by unfold hdr Bytes; decide) h)
      have hne2 : ((strOfNums (b.take 4)).toList == ([76, 68, 84, 49] : List UInt8)) = false := by
        rw [beq_eq_false_iff_ne]
        exact fun h => hne (toList_inj (h.trans (show ([76, 68, 84, 49] : List UInt8) = (⟨#[76, 68, 84, 49]⟩ : ByteArray).toList by rw [Lib.toList_data])))
      have HS : Aside0 (looseF b = ([], false)) := ⟨by unfold looseF; rw [if_neg hh]⟩
      obtain ⟨sd, hsd⟩ : ∃ sd, sd = strOfNums (b.take 4) := ⟨_, rfl⟩
      rw [← hsd] at hcv0 hne hne2
      clear hcv hsd
      go_enter Try.func5, Try.ntmps5
      go_wp2_with fail
      go_ret2
      rw [HS.out]
      exact ⟨_, _, rfl, Nat.le_refl _, C_none _ _, hB0⟩
end Go.Proofs.Ythofgkmfllccnaa.G
namespace Go.Proofs.Ythofgkmfllccnaa.G
open Go.RowKit Go.Proofs.YthofgkmfllccnaaW.PrintWords Go.Proofs.YthofgkmfllccnaaW.PrintLast Go.Proofs.YthofgkmfllccnaaW.PrintMore
attribute [local go_sem] max2_int min2_int max_two min_two max_three min_three max_four min_four
set_option linter.unusedVariables false
set_option linter.unusedSimpArgs false
def laws_markByteS.l0 : Nat → List Int → Int → Int → Option (Int × List Int)
  | 0, _, _, _ => none
  | k + 1, x0, x1, x5 => if x5 < (x0.length : Int) then (if 0 ≤ x5 then (laws_markByteS.l0 k (x0.set (x5 : Int).toNat ((x1) % 256)) (wrap64 (x1 + 1)) (wrap64 (x5 + 1))) else (none)) else (some (x1, x0))
def laws_markByteS.f (k : Nat) (l0 : List Int) (a1 : Int) : Option (Int × List Int) := laws_markByteS.l0 k l0 a1 0
set_option maxHeartbeats 8000000 in
set_option maxRecDepth 100000 in
theorem laws_markByteS.calls (k : Nat) (P0_ : Nat → Prop) (u9000_ : Value) (l0 : List Int) (a1 : Int) (r1 : Int) (r2 : List Int) (w0 w : World) (hB : Below w0.heap.size w0 w) (ho0 : Kd.R (Kd.int .u8) 5 w w0.heap.size P0_ u9000_ l0) (h : laws_markByteS.f k l0 a1 = some (r1, r2)) :
    Calls Try.prog 10 #[u9000_, .int .i64 a1] w fun e w' => e = .returned (.int .i64 r1) ∧ Kd.R (Kd.int .u8) 5 w' w0.heap.size (fun k_ => (P0_ k_ ∨ w.heap.size ≤ k_)) u9000_ r2 ∧ Below w0.heap.size w0 w' ∧ Kept w w' (fun k_ => P0_ k_) := by
  have HO0 := Aside0.mk (show Kd.R (Kd.int .u8) 5 w w0.heap.size (fun k_ => (P0_ k_ ∨ w.heap.size ≤ k_)) u9000_ l0 from Kd.R_mono ho0 (fun k_ hk => (.inl hk)))
  have HK := Aside0.mk (Kept.refl w (fun k_ => P0_ k_))
  have HW0 := Aside0.mk hB.size
  have HB := Aside0.mk hB
  clear hB
  have H : (laws_markByteS.l0 k l0 a1 0) = some (r1, r2) := h
  clear h
  have H' := Aside0.mk H
  clear H
  go_enter Try.func10, Try.ntmps10
  go_wp2
  go_loopg [1, 5] k (fun kq v1 v5 w' => ∃ (x0_1 : List Int) (x1_1 : Int) (x5_1 : Int), v1 = .int .i64 x1_1 ∧ v5 = .int .i64 x5_1 ∧ Aside0 (laws_markByteS.l0 kq x0_1 x1_1 x5_1 = some (r1, r2)) ∧ Aside0 (kq ≤ k) ∧ Aside0 (Kd.R (Kd.int .u8) 5 w' w0.heap.size (fun k_ => (P0_ k_ ∨ w.heap.size ≤ k_)) u9000_ x0_1) ∧ Aside0 (Kept w w' (fun k_ => P0_ k_)) ∧ Aside0 (Below w0.heap.size w0 w'))
  case atStart => exact ⟨(l0), (a1), (0), (by first | rfl | (simp; done) | (simp [*]; done)), (by first | rfl | (simp; done) | (simp [*]; done)), H', ⟨Nat.le_refl _⟩, ⟨by (with_reducible repeat (first | apply Kd.R_alloc | apply Kd.R_drewN | apply Kd.R_drew)); exact HO0.out⟩, ⟨by repeat (first | (with_reducible first | exact HK.out | apply Kept.alloc | apply Kept.drewN | apply Kept.drew) | exact HK.out)⟩, ⟨by repeat (first | (with_reducible first | exact HB.out | apply below_alloc | apply pw_below_drewN | apply below_drew1) | exact HB.out)⟩⟩
  case round =>
    clear H'
    try clear c1
    try clear p2
    obtain ⟨x0_1, x1_1, x5_1, rfl, rfl, HA, HK1, HO_0, HK, HB⟩ := hrel
    cases gk with
    | zero => exact absurd HA.out (by simp [laws_markByteS.l0])
    | succ k1 =>
      have H := HA.out
      clear HA
      simp only [laws_markByteS.l0] at H
      by_cases c3 : x5_1 < (x0_1.length : Int)
      · rw [if_pos c3] at H
        have c3b0 : decide (x5_1 < (x0_1.length : Int)) = true := decide_eq_true c3
        clear c3
        by_cases c4 : 0 ≤ x5_1
        · rw [if_pos c4] at H
          have c4b0 : decide (0 ≤ x5_1) = true := decide_eq_true c4
          clear c4
          obtain ⟨y172, hy172⟩ : ∃ y_ : List Int, y_ = (x0_1.set (x5_1 : Int).toNat ((x1_1) % 256)) := ⟨_, rfl⟩
          replace H : (laws_markByteS.l0 k1 y172 (wrap64 (x1_1 + 1)) (wrap64 (x5_1 + 1))) = some (r1, r2) := by first | (rw [hy172]; with_reducible exact H) | (have H2_ := (Option.bind_some _ _).symm.trans H; rw [hy172]; with_reducible exact H2_) | (have H2_ := (Option.bind_some _ _).symm.trans H; with_reducible exact H2_) | with_reducible exact H | (rw [hy172]; exact H) | exact H
          have Ny172 := Aside0.mk hy172
          clear hy172
          have H' := Aside0.mk H
          clear H
          obtain ⟨Ao6, co6, eo6⟩ := Kd.R_slice HO_0.out
          subst eo6
          have p5 : 0 ≤ (x5_1 : Int) := of_decide_eq_true (by first | (with_reducible assumption) | assumption)
          have q5 : (x5_1 : Int) < ((x0_1.length : Int) : Int) := of_decide_eq_true (by first | (with_reducible assumption) | assumption)
          obtain ⟨go5, co5, eo5, gb5, gl5, cl5, HG5⟩ := Kd.R_form HO_0.out (by omega)
          (first | cases eo5 | (injection eo5 with ea_ en_ ec_; (first | subst ea_ | (injection ea_ with ea_; subst ea_)); subst ec_; clear en_))
          have GB5 := Aside0.mk gb5
          have GG5 := Aside0.mk HG5
          clear gb5 gl5 HG5
          have HMgo5 := Aside0.mk (show (P0_ go5 ∨ w.heap.size ≤ go5) from (HO_0.out.1 _ rfl))
          obtain ⟨hx5_0, hf5_0⟩ := Kd.R_celln 0 HO_0.out (x5_1 : Int) p5 q5
          replace p5 := eq_true p5
          replace q5 := eq_true q5
          have HP7 := Kd.R_putg HO_0.out (x5_1 : Int) ((x1_1) % 256)
          go_wp2_with (first | ((with_reducible refine gate_store (t := 5) (p := 16) rfl ?_); refine store_event (t := 5) (p := 16) (v := ?vo_w8) (w1 := (wr.setCell ⟨go5, (x5_1 : Int).toNat, none⟩ (.int .u8 ((x1_1) % 256)))) ?hg ?ho ?hn ?hr ?_; (case ho => rfl); (case hg => rfl); (case hn => rfl); (case hr => first | (go_simp; done) | (go_simp; rfl)); intro w8 hw; have hg : wr.grownBy w8 (some go5) := (by rw [hw]; exact HP7.2); have hp_ : Kd.R (Kd.int .u8) 5 w8 w0.heap.size (fun k_ => (P0_ k_ ∨ w.heap.size ≤ k_)) (.slice (some ⟨go5, 0, none⟩) x0_1.length co6) y172 := (by rw [hw, Ny172.out]; exact HP7.1); clear HP7; have n0_ := Aside0.mk (hp_); have n1_ := Aside0.mk ((by rw [hw]; exact below_set (HB.out) GB5.out : Below w0.heap.size w0 w8)); have n2_ := Aside0.mk (Kept.of_grown (S := (fun k_ => P0_ k_)) hg (by repeat (first | (with_reducible first | exact HK.out | apply Kept.alloc | apply Kept.drewN | apply Kept.drew) | exact HK.out)) (fun k_ e_ => (HO_0.out.1 k_ e_))); clear HO_0; clear HB; clear HK; have HO_0 := n0_; have HB := n1_; have HK := n2_; clear n0_ n1_ n2_; clear hg hw hp_))
          go_roundg k1
          case measure => have := HK1.out; omega
          case rel => exact ⟨(y172), (wrap64 (x1_1 + 1)), (wrap64 (x5_1 + 1)), (by first | rfl | (simp; done) | (simp [*]; done)), (by first | rfl | (simp; done) | (simp [*]; done)), H', ⟨by have := HK1.out; omega⟩, ⟨by (with_reducible repeat (first | apply Kd.R_alloc | apply Kd.R_drewN | apply Kd.R_drew)); exact HO_0.out⟩, ⟨by repeat (first | (with_reducible first | exact HK.out | apply Kept.alloc | apply Kept.drewN | apply Kept.drew) | exact HK.out)⟩, ⟨by repeat (first | (with_reducible first | exact HB.out | apply below_alloc | apply pw_below_drewN | apply below_drew1) | exact HB.out)⟩⟩
        · rw [if_neg c4] at H
          exact absurd H (by simp)
      · rw [if_neg c3] at H
        have c3b0 : decide (x5_1 < (x0_1.length : Int)) = false := decide_eq_false c3
        clear c3
        simp only [Option.some.injEq, Prod.mk.injEq] at H
        obtain ⟨rfl, rfl⟩ := H
        obtain ⟨Ao9, co9, eo9⟩ := Kd.R_slice HO_0.out
        subst eo9
        go_wp2
        go_ret
        exact ⟨by first | rfl | (simp [errW_none, errW_some] <;> rfl) | (simp [*, errW_none, errW_some] <;> rfl), by (with_reducible repeat (first | apply Kd.R_alloc | apply Kd.R_drewN | apply Kd.R_drew)); exact HO_0.out, by repeat (first | (with_reducible first | exact HB.out | apply below_alloc | apply pw_below_drewN | apply below_drew1) | exact HB.out), by repeat (first | (with_reducible first | exact HK.out | apply Kept.alloc | apply Kept.drewN | apply Kept.drew) | exact HK.out)⟩
end Go.Proofs.Ythofgkmfllccnaa.G
namespace Go.Proofs.Ythofgkmfllccnaa.G
open Go.RowKit Go.Proofs.YthofgkmfllccnaaW.PrintWords Go.Proofs.YthofgkmfllccnaaW.PrintLast Go.Proofs.YthofgkmfllccnaaW.PrintMore
attribute [local go_sem] max2_int min2_int max_two min_two max_three min_three max_four min_four
set_option linter.unusedVariables false
set_option linter.unusedSimpArgs false
def laws_heldByteS.l0 : Nat → List Int → Int → Int → Option (Int)
  | 0, _, _, _ => none
  | k + 1, x0, x1, x5 => if x5 < (x0.length : Int) then (if 0 ≤ x5 then (if (rd x0 x5) = ((x1) % 256) then (laws_heldByteS.l0 k x0 (wrap64 (x1 + 1)) (wrap64 (x5 + 1))) else (some (-1))) else (none)) else (some x1)
def laws_heldByteS.f (k : Nat) (l0 : List Int) (a1 : Int) : Option (Int) := laws_heldByteS.l0 k l0 a1 0
set_option maxHeartbeats 8000000 in
set_option maxRecDepth 100000 in
theorem laws_heldByteS.calls (k : Nat) (A0 : Option Addr) (c0 : Nat) (l0 : List Int) (a1 : Int) (r : Int) (w : World) (hr0 : Kd.C (Kd.int .u8) w A0 l0.length l0) (hc0 : l0.length ≤ c0) (h : laws_heldByteS.f k l0 a1 = some r) :
    Calls Try.prog 28 #[.slice A0 l0.length c0, .int .i64 a1] w fun e w' => e = .returned (.int .i64 r) ∧ Drawn0 w w' := by
  have HR0 := Aside0.mk hr0
  have HC0 := Aside0.mk hc0
  clear hr0 hc0
  have H : (laws_heldByteS.l0 k l0 a1 0) = some r := h
  clear h
  have H' := Aside0.mk H
  clear H
  go_enter Try.func28, Try.ntmps28
  go_wp2
  go_loopg [1, 5] k (fun kq v1 v5 w' => ∃ (x1_1 : Int) (x5_1 : Int), v1 = .int .i64 x1_1 ∧ v5 = .int .i64 x5_1 ∧ Aside0 (laws_heldByteS.l0 kq l0 x1_1 x5_1 = some r) ∧ Aside0 (kq ≤ k) ∧ Drawn0 w w')
  case atStart => exact ⟨(a1), (0), (by first | rfl | (simp; done) | (simp [*]; done)), (by first | rfl | (simp; done) | (simp [*]; done)), H', ⟨Nat.le_refl _⟩, by repeat (first | exact Drawn0.refl _ | apply Drawn0.step)⟩
  case round =>
    clear H'
    try clear c2
    try clear p2
    obtain ⟨x1_1, x5_1, rfl, rfl, HA, HK1, ⟨m1, rfl⟩⟩ := hrel
    cases gk with
    | zero => exact absurd HA.out (by simp [laws_heldByteS.l0])
    | succ k1 =>
      have H := HA.out
      clear HA
      simp only [laws_heldByteS.l0] at H
      by_cases c3 : x5_1 < (l0.length : Int)
      · rw [if_pos c3] at H
        have c3b0 : decide (x5_1 < (l0.length : Int)) = true := decide_eq_true c3
        clear c3
        by_cases c4 : 0 ≤ x5_1
        · rw [if_pos c4] at H
          have c4b0 : decide (0 ≤ x5_1) = true := decide_eq_true c4
          clear c4
          by_cases c5 : (rd l0 x5_1) = ((x1_1) % 256)
          · rw [if_pos c5] at H
            have c5b0 : ((rd l0 x5_1) == ((x1_1) % 256)) = true := beq_iff_eq.mpr c5
            have c5b1 : ((rd l0 x5_1) != ((x1_1) % 256)) = false := bne_eq_false_iff_eq.mpr c5
            clear c5
            have H' := Aside0.mk H
            clear H
            have p173 : 0 ≤ (x5_1 : Int) := of_decide_eq_true (by first | (with_reducible assumption) | assumption)
            have q173 : x5_1 < (l0.length : Int) := of_decide_eq_true (by first | (with_reducible assumption) | assumption)
            obtain ⟨ad173, e173, hx173_0⟩ := Kd.at_int HR0.out x5_1 p173 q173
            cases e173
            replace p173 := eq_true p173
            replace q173 := eq_true q173
            go_wp2
            go_roundg k1
            case measure => have := HK1.out; omega
            case rel => exact ⟨(wrap64 (x1_1 + 1)), (wrap64 (x5_1 + 1)), (by first | rfl | (simp; done) | (simp [*]; done)), (by first | rfl | (simp; done) | (simp [*]; done)), H', ⟨by have := HK1.out; omega⟩, by repeat (first | exact Drawn0.refl _ | apply Drawn0.step)⟩
          · rw [if_neg c5] at H
            have c5b0 : ((rd l0 x5_1) == ((x1_1) % 256)) = false := beq_eq_false_iff_ne.mpr c5
            have c5b1 : ((rd l0 x5_1) != ((x1_1) % 256)) = true := bne_iff_ne.mpr c5
            obtain rfl := Option.some.inj H
            have p173 : 0 ≤ (x5_1 : Int) := of_decide_eq_true (by first | (with_reducible assumption) | assumption)
            have q173 : x5_1 < (l0.length : Int) := of_decide_eq_true (by first | (with_reducible assumption) | assumption)
            obtain ⟨ad173, e173, hx173_0⟩ := Kd.at_int HR0.out x5_1 p173 q173
            cases e173
            replace p173 := eq_true p173
            replace q173 := eq_true q173
            go_wp2
            go_ret
            exact ⟨by first | rfl | (simp; done) | (simp [*]; done), by repeat (first | exact Drawn0.refl _ | apply Drawn0.step)⟩
        · rw [if_neg c4] at H
          exact absurd H (by simp)
      · rw [if_neg c3] at H
        have c3b0 : decide (x5_1 < (l0.length : Int)) = false := decide_eq_false c3
        clear c3
        obtain rfl := Option.some.inj H
        go_wp2
        go_ret
        exact ⟨by first | rfl | (simp; done) | (simp [*]; done), by repeat (first | exact Drawn0.refl _ | apply Drawn0.step)⟩
end Go.Proofs.Ythofgkmfllccnaa.G
namespace Go.Proofs.Ythofgkmfllccnaa.G
open Go.RowKit Go.Proofs.YthofgkmfllccnaaW.PrintWords Go.Proofs.YthofgkmfllccnaaW.PrintLast Go.Proofs.YthofgkmfllccnaaW.PrintMore
attribute [local go_sem] max2_int min2_int max_two min_two max_three min_three max_four min_four
set_option linter.unusedVariables false
set_option linter.unusedSimpArgs false
def laws_heldStepS.l0 : Nat → List (S43) → Int → Int → Option (Int)
  | 0, _, _, _ => none
  | k + 1, x0, x1, x5 => if x5 < (x0.length : Int) then (if 0 ≤ x5 then (if ((rd_T43 x0 x5).f0) = x1 then (if ((rd_T43 x0 x5).f1) = (wrap64 (x1 + 1)) then (if ((rd_T43 x0 x5).f2) = (wrap64 ((wrap64 (x1 + 1)) + 1)) then ((laws_heldByteS.f k ((rd_T43 x0 x5).f3) (wrap64 ((wrap64 ((wrap64 (x1 + 1)) + 1)) + 1))).bind fun t178 => (if t178 < 0 then (some (-1)) else (laws_heldStepS.l0 k x0 t178 (wrap64 (x5 + 1))))) else (some (-1))) else (some (-1))) else (some (-1))) else (none)) else (some x1)
def laws_heldStepS.f (k : Nat) (l0 : List (S43)) (a1 : Int) : Option (Int) := laws_heldStepS.l0 k l0 a1 0
set_option maxHeartbeats 8000000 in
set_option maxRecDepth 100000 in
theorem laws_heldStepS.calls (k : Nat) (A0 : Option Addr) (c0 : Nat) (l0 : List (S43)) (a1 : Int) (r : Int) (w : World) (hr0 : Kd.C k43 w A0 l0.length l0) (hc0 : l0.length ≤ c0) (h : laws_heldStepS.f k l0 a1 = some r) :
    Calls Try.prog 12 #[.slice A0 l0.length c0, .int .i64 a1] w fun e w' => e = .returned (.int .i64 r) ∧ Drawn0 w w' := by
  have HR0 := Aside0.mk hr0
  have HC0 := Aside0.mk hc0
  clear hr0 hc0
  have H : (laws_heldStepS.l0 k l0 a1 0) = some r := h
  clear h
  have H' := Aside0.mk H
  clear H
  go_enter Try.func12, Try.ntmps12
  go_wp2
  go_loopg [1, 5] k (fun kq v1 v5 w' => ∃ (x1_1 : Int) (x5_1 : Int), v1 = .int .i64 x1_1 ∧ v5 = .int .i64 x5_1 ∧ Aside0 (laws_heldStepS.l0 kq l0 x1_1 x5_1 = some r) ∧ Aside0 (kq ≤ k) ∧ Drawn0 w w')
  case atStart => exact ⟨(a1), (0), (by first | rfl | (simp; done) | (simp [*]; done)), (by first | rfl | (simp; done) | (simp [*]; done)), H', ⟨Nat.le_refl _⟩, by repeat (first | exact Drawn0.refl _ | apply Drawn0.step)⟩
  case round =>
    clear H'
    try clear c1
    try clear p2
    obtain ⟨x1_1, x5_1, rfl, rfl, HA, HK1, ⟨m1, rfl⟩⟩ := hrel
    cases gk with
    | zero => exact absurd HA.out (by simp [laws_heldStepS.l0])
    | succ k1 =>
      have H := HA.out
      clear HA
      simp only [laws_heldStepS.l0] at H
      by_cases c3 : x5_1 < (l0.length : Int)
      · rw [if_pos c3] at H
        have c3b0 : decide (x5_1 < (l0.length : Int)) = true := decide_eq_true c3
        clear c3
        by_cases c4 : 0 ≤ x5_1
        · rw [if_pos c4] at H
          have c4b0 : decide (0 ≤ x5_1) = true := decide_eq_true c4
          clear c4
          by_cases c5 : ((rd_T43 l0 x5_1).f0) = x1_1
          · rw [if_pos c5] at H
            have c5b0 : (((rd_T43 l0 x5_1).f0) == x1_1) = true := beq_iff_eq.mpr c5
            have c5b1 : (((rd_T43 l0 x5_1).f0) != x1_1) = false := bne_eq_false_iff_eq.mpr c5
            clear c5
            by_cases c6 : ((rd_T43 l0 x5_1).f1) = (wrap64 (x1_1 + 1))
            · rw [if_pos c6] at H
              have c6b0 : (((rd_T43 l0 x5_1).f1) == (wrap64 (x1_1 + 1))) = true := beq_iff_eq.mpr c6
              have c6b1 : (((rd_T43 l0 x5_1).f1) != (wrap64 (x1_1 + 1))) = false := bne_eq_false_iff_eq.mpr c6
              clear c6
              by_cases c7 : ((rd_T43 l0 x5_1).f2) = (wrap64 ((wrap64 (x1_1 + 1)) + 1))
              · rw [if_pos c7] at H
                have c7b0 : (((rd_T43 l0 x5_1).f2) == (wrap64 ((wrap64 (x1_1 + 1)) + 1))) = true := beq_iff_eq.mpr c7
                have c7b1 : (((rd_T43 l0 x5_1).f2) != (wrap64 ((wrap64 (x1_1 + 1)) + 1))) = false := bne_eq_false_iff_eq.mpr c7
                clear c7
                replace H := Option.bind_eq_some_iff.mp H
                obtain ⟨t178, A80, H⟩ := H
                replace H : (if t178 < 0 then (some (-1)) else (laws_heldStepS.l0 k1 l0 t178 (wrap64 (x5_1 + 1)))) = some r := H
                have A8 := Aside0.mk A80
                clear A80
                by_cases c9 : t178 < 0
                · rw [if_pos c9] at H
                  have c9b0 : decide (t178 < 0) = true := decide_eq_true c9
                  clear c9
                  obtain rfl := Option.some.inj H
                  have p174 : 0 ≤ (x5_1 : Int) := of_decide_eq_true (by first | (with_reducible assumption) | assumption)
                  have q174 : x5_1 < (l0.length : Int) := of_decide_eq_true (by first | (with_reducible assumption) | assumption)
                  obtain ⟨ad174, A174_3, c174_3, e174, hx174_0, hx174_1, hx174_2, hx174_3, hl174_3, hi174_3⟩ := at_T43 HR0.out x5_1 p174 q174
                  cases e174
                  have HR174_3 := Aside0.mk hi174_3
                  have HC174_3 := Aside0.mk hl174_3
                  clear hi174_3 hl174_3
                  replace p174 := eq_true p174
                  replace q174 := eq_true q174
                  have p175 : 0 ≤ (x5_1 : Int) := of_decide_eq_true (by first | (with_reducible assumption) | assumption)
                  have q175 : x5_1 < (l0.length : Int) := of_decide_eq_true (by first | (with_reducible assumption) | assumption)
                  obtain ⟨ad175, A175_3, c175_3, e175, hx175_0, hx175_1, hx175_2, hx175_3, hl175_3, hi175_3⟩ := at_T43 HR0.out x5_1 p175 q175
                  obtain rfl : ad174 = ad175 := (by injection e175)
                  have HR175_3 := Aside0.mk hi175_3
                  have HC175_3 := Aside0.mk hl175_3
                  clear hi175_3 hl175_3
                  replace p175 := eq_true p175
                  replace q175 := eq_true q175
                  have ea_ := Option.some.inj (hx174_3.symm.trans hx175_3)
                  injection ea_ with ea_ en_ ec_
                  subst ea_
                  subst ec_
                  clear en_
                  have p176 : 0 ≤ (x5_1 : Int) := of_decide_eq_true (by first | (with_reducible assumption) | assumption)
                  have q176 : x5_1 < (l0.length : Int) := of_decide_eq_true (by first | (with_reducible assumption) | assumption)
                  obtain ⟨ad176, A176_3, c176_3, e176, hx176_0, hx176_1, hx176_2, hx176_3, hl176_3, hi176_3⟩ := at_T43 HR0.out x5_1 p176 q176
                  obtain rfl : ad174 = ad176 := (by injection e176)
                  have HR176_3 := Aside0.mk hi176_3
                  have HC176_3 := Aside0.mk hl176_3
                  clear hi176_3 hl176_3
                  replace p176 := eq_true p176
                  replace q176 := eq_true q176
                  have ea_ := Option.some.inj (hx174_3.symm.trans hx176_3)
                  injection ea_ with ea_ en_ ec_
                  subst ea_
                  subst ec_
                  clear en_
                  have p177 : 0 ≤ (x5_1 : Int) := of_decide_eq_true (by first | (with_reducible assumption) | assumption)
                  have q177 : x5_1 < (l0.length : Int) := of_decide_eq_true (by first | (with_reducible assumption) | assumption)
                  obtain ⟨ad177, A177_3, c177_3, e177, hx177_0, hx177_1, hx177_2, hx177_3, hl177_3, hi177_3⟩ := at_T43 HR0.out x5_1 p177 q177
                  obtain rfl : ad174 = ad177 := (by injection e177)
                  have HR177_3 := Aside0.mk hi177_3
                  have HC177_3 := Aside0.mk hl177_3
                  clear hi177_3 hl177_3
                  replace p177 := eq_true p177
                  replace q177 := eq_true q177
                  have ea_ := Option.some.inj (hx174_3.symm.trans hx177_3)
                  injection ea_ with ea_ en_ ec_
                  subst ea_
                  subst ec_
                  clear en_
                  go_wp2_with (first | ((with_reducible refine gate_callee (f := 28) rfl ?_); refine goesL_ (some 45) rfl rfl Try.func28 (by kernel_rfl) rfl #[.slice A174_3 ((rd_T43 l0 x5_1).f3).length c174_3, .int .i64 (wrap64 ((wrap64 ((wrap64 (x1_1 + 1)) + 1)) + 1))] rfl (by (try simp only [List.map_toArray, List.map_cons, List.map_nil]); first | done | rfl | (simp only [List.length_drop, List.length_take]; rfl)) ?_; (with_reducible refine (laws_heldByteS.calls k1 _ _ ((rd_T43 l0 x5_1).f3) (wrap64 ((wrap64 ((wrap64 (x1_1 + 1)) + 1)) + 1)) t178 _ ?side1 ?side2 A8.out).mono ?_); (case side1 => repeat (first | exact HR177_3.out | (with_reducible refine Kd.C_alloc ?_ _) | (with_reducible refine Kd.C_drewN ?_ _) | (with_reducible refine Kd.C_drew ?_))); (case side2 => exact HC177_3.out); rintro e w' ⟨rfl, ⟨nd, rfl⟩⟩; refine ⟨_, rfl, ?_⟩))
                  go_ret
                  exact ⟨by first | rfl | (simp; done) | (simp [*]; done), by repeat (first | exact Drawn0.refl _ | apply Drawn0.step)⟩
                · rw [if_neg c9] at H
                  have c9b0 : decide (t178 < 0) = false := decide_eq_false c9
                  clear c9
                  have H' := Aside0.mk H
                  clear H
                  have p174 : 0 ≤ (x5_1 : Int) := of_decide_eq_true (by first | (with_reducible assumption) | assumption)
                  have q174 : x5_1 < (l0.length : Int) := of_decide_eq_true (by first | (with_reducible assumption) | assumption)
                  obtain ⟨ad174, A174_3, c174_3, e174, hx174_0, hx174_1, hx174_2, hx174_3, hl174_3, hi174_3⟩ := at_T43 HR0.out x5_1 p174 q174
                  cases e174
                  have HR174_3 := Aside0.mk hi174_3
                  have HC174_3 := Aside0.mk hl174_3
                  clear hi174_3 hl174_3
                  replace p174 := eq_true p174
                  replace q174 := eq_true q174
                  have p175 : 0 ≤ (x5_1 : Int) := of_decide_eq_true (by first | (with_reducible assumption) | assumption)
                  have q175 : x5_1 < (l0.length : Int) := of_decide_eq_true (by first | (with_reducible assumption) | assumption)
                  obtain ⟨ad175, A175_3, c175_3, e175, hx175_0, hx175_1, hx175_2, hx175_3, hl175_3, hi175_3⟩ := at_T43 HR0.out x5_1 p175 q175
                  obtain rfl : ad174 = ad175 := (by injection e175)
                  have HR175_3 := Aside0.mk hi175_3
                  have HC175_3 := Aside0.mk hl175_3
                  clear hi175_3 hl175_3
                  replace p175 := eq_true p175
                  replace q175 := eq_true q175
                  have ea_ := Option.some.inj (hx174_3.symm.trans hx175_3)
                  injection ea_ with ea_ en_ ec_
                  subst ea_
                  subst ec_
                  clear en_
                  have p176 : 0 ≤ (x5_1 : Int) := of_decide_eq_true (by first | (with_reducible assumption) | assumption)
                  have q176 : x5_1 < (l0.length : Int) := of_decide_eq_true (by first | (with_reducible assumption) | assumption)
                  obtain ⟨ad176, A176_3, c176_3, e176, hx176_0, hx176_1, hx176_2, hx176_3, hl176_3, hi176_3⟩ := at_T43 HR0.out x5_1 p176 q176
                  obtain rfl : ad174 = ad176 := (by injection e176)
                  have HR176_3 := Aside0.mk hi176_3
                  have HC176_3 := Aside0.mk hl176_3
                  clear hi176_3 hl176_3
                  replace p176 := eq_true p176
                  replace q176 := eq_true q176
                  have ea_ := Option.some.inj (hx174_3.symm.trans hx176_3)
                  injection ea_ with ea_ en_ ec_
                  subst ea_
                  subst ec_
                  clear en_
                  have p177 : 0 ≤ (x5_1 : Int) := of_decide_eq_true (by first | (with_reducible assumption) | assumption)
                  have q177 : x5_1 < (l0.length : Int) := of_decide_eq_true (by first | (with_reducible assumption) | assumption)
                  obtain ⟨ad177, A177_3, c177_3, e177, hx177_0, hx177_1, hx177_2, hx177_3, hl177_3, hi177_3⟩ := at_T43 HR0.out x5_1 p177 q177
                  obtain rfl : ad174 = ad177 := (by injection e177)
                  have HR177_3 := Aside0.mk hi177_3
                  have HC177_3 := Aside0.mk hl177_3
                  clear hi177_3 hl177_3
                  replace p177 := eq_true p177
                  replace q177 := eq_true q177
                  have ea_ := Option.some.inj (hx174_3.symm.trans hx177_3)
                  injection ea_ with ea_ en_ ec_
                  subst ea_
                  subst ec_
                  clear en_
                  go_wp2_with (first | ((with_reducible refine gate_callee (f := 28) rfl ?_); refine goesL_ (some 45) rfl rfl Try.func28 (by kernel_rfl) rfl #[.slice A174_3 ((rd_T43 l0 x5_1).f3).length c174_3, .int .i64 (wrap64 ((wrap64 ((wrap64 (x1_1 + 1)) + 1)) + 1))] rfl (by (try simp only [List.map_toArray, List.map_cons, List.map_nil]); first | done | rfl | (simp only [List.length_drop, List.length_take]; rfl)) ?_; (with_reducible refine (laws_heldByteS.calls k1 _ _ ((rd_T43 l0 x5_1).f3) (wrap64 ((wrap64 ((wrap64 (x1_1 + 1)) + 1)) + 1)) t178 _ ?side1 ?side2 A8.out).mono ?_); (case side1 => repeat (first | exact HR177_3.out | (with_reducible refine Kd.C_alloc ?_ _) | (with_reducible refine Kd.C_drewN ?_ _) | (with_reducible refine Kd.C_drew ?_))); (case side2 => exact HC177_3.out); rintro e w' ⟨rfl, ⟨nd, rfl⟩⟩; refine ⟨_, rfl, ?_⟩))
                  go_roundg k1
                  case measure => have := HK1.out; omega
                  case rel => exact ⟨(t178), (wrap64 (x5_1 + 1)), (by first | rfl | (simp; done) | (simp [*]; done)), (by first | rfl | (simp; done) | (simp [*]; done)), H', ⟨by have := HK1.out; omega⟩, by repeat (first | exact Drawn0.refl _ | apply Drawn0.step)⟩
              · rw [if_neg c7] at H
                have c7b0 : (((rd_T43 l0 x5_1).f2) == (wrap64 ((wrap64 (x1_1 + 1)) + 1))) = false := beq_eq_false_iff_ne.mpr c7
                have c7b1 : (((rd_T43 l0 x5_1).f2) != (wrap64 ((wrap64 (x1_1 + 1)) + 1))) = true := bne_iff_ne.mpr c7
                obtain rfl := Option.some.inj H
                have p174 : 0 ≤ (x5_1 : Int) := of_decide_eq_true (by first | (with_reducible assumption) | assumption)
                have q174 : x5_1 < (l0.length : Int) := of_decide_eq_true (by first | (with_reducible assumption) | assumption)
                obtain ⟨ad174, A174_3, c174_3, e174, hx174_0, hx174_1, hx174_2, hx174_3, hl174_3, hi174_3⟩ := at_T43 HR0.out x5_1 p174 q174
                cases e174
                have HR174_3 := Aside0.mk hi174_3
                have HC174_3 := Aside0.mk hl174_3
                clear hi174_3 hl174_3
                replace p174 := eq_true p174
                replace q174 := eq_true q174
                have p175 : 0 ≤ (x5_1 : Int) := of_decide_eq_true (by first | (with_reducible assumption) | assumption)
                have q175 : x5_1 < (l0.length : Int) := of_decide_eq_true (by first | (with_reducible assumption) | assumption)
                obtain ⟨ad175, A175_3, c175_3, e175, hx175_0, hx175_1, hx175_2, hx175_3, hl175_3, hi175_3⟩ := at_T43 HR0.out x5_1 p175 q175
                obtain rfl : ad174 = ad175 := (by injection e175)
                have HR175_3 := Aside0.mk hi175_3
                have HC175_3 := Aside0.mk hl175_3
                clear hi175_3 hl175_3
                replace p175 := eq_true p175
                replace q175 := eq_true q175
                have ea_ := Option.some.inj (hx174_3.symm.trans hx175_3)
                injection ea_ with ea_ en_ ec_
                subst ea_
                subst ec_
                clear en_
                have p176 : 0 ≤ (x5_1 : Int) := of_decide_eq_true (by first | (with_reducible assumption) | assumption)
                have q176 : x5_1 < (l0.length : Int) := of_decide_eq_true (by first | (with_reducible assumption) | assumption)
                obtain ⟨ad176, A176_3, c176_3, e176, hx176_0, hx176_1, hx176_2, hx176_3, hl176_3, hi176_3⟩ := at_T43 HR0.out x5_1 p176 q176
                obtain rfl : ad174 = ad176 := (by injection e176)
                have HR176_3 := Aside0.mk hi176_3
                have HC176_3 := Aside0.mk hl176_3
                clear hi176_3 hl176_3
                replace p176 := eq_true p176
                replace q176 := eq_true q176
                have ea_ := Option.some.inj (hx174_3.symm.trans hx176_3)
                injection ea_ with ea_ en_ ec_
                subst ea_
                subst ec_
                clear en_
                go_wp2
                go_ret
                exact ⟨by first | rfl | (simp; done) | (simp [*]; done), by repeat (first | exact Drawn0.refl _ | apply Drawn0.step)⟩
            · rw [if_neg c6] at H
              have c6b0 : (((rd_T43 l0 x5_1).f1) == (wrap64 (x1_1 + 1))) = false := beq_eq_false_iff_ne.mpr c6
              have c6b1 : (((rd_T43 l0 x5_1).f1) != (wrap64 (x1_1 + 1))) = true := bne_iff_ne.mpr c6
              obtain rfl := Option.some.inj H
              have p174 : 0 ≤ (x5_1 : Int) := of_decide_eq_true (by first | (with_reducible assumption) | assumption)
              have q174 : x5_1 < (l0.length : Int) := of_decide_eq_true (by first | (with_reducible assumption) | assumption)
              obtain ⟨ad174, A174_3, c174_3, e174, hx174_0, hx174_1, hx174_2, hx174_3, hl174_3, hi174_3⟩ := at_T43 HR0.out x5_1 p174 q174
              cases e174
              have HR174_3 := Aside0.mk hi174_3
              have HC174_3 := Aside0.mk hl174_3
              clear hi174_3 hl174_3
              replace p174 := eq_true p174
              replace q174 := eq_true q174
              have p175 : 0 ≤ (x5_1 : Int) := of_decide_eq_true (by first | (with_reducible assumption) | assumption)
              have q175 : x5_1 < (l0.length : Int) := of_decide_eq_true (by first | (with_reducible assumption) | assumption)
              obtain ⟨ad175, A175_3, c175_3, e175, hx175_0, hx175_1, hx175_2, hx175_3, hl175_3, hi175_3⟩ := at_T43 HR0.out x5_1 p175 q175
              obtain rfl : ad174 = ad175 := (by injection e175)
              have HR175_3 := Aside0.mk hi175_3
              have HC175_3 := Aside0.mk hl175_3
              clear hi175_3 hl175_3
              replace p175 := eq_true p175
              replace q175 := eq_true q175
              have ea_ := Option.some.inj (hx174_3.symm.trans hx175_3)
              injection ea_ with ea_ en_ ec_
              subst ea_
              subst ec_
              clear en_
              go_wp2
              go_ret
              exact ⟨by first | rfl | (simp; done) | (simp [*]; done), by repeat (first | exact Drawn0.refl _ | apply Drawn0.step)⟩
          · rw [if_neg c5] at H
            have c5b0 : (((rd_T43 l0 x5_1).f0) == x1_1) = false := beq_eq_false_iff_ne.mpr c5
            have c5b1 : (((rd_T43 l0 x5_1).f0) != x1_1) = true := bne_iff_ne.mpr c5
            obtain rfl := Option.some.inj H
            have p174 : 0 ≤ (x5_1 : Int) := of_decide_eq_true (by first | (with_reducible assumption) | assumption)
            have q174 : x5_1 < (l0.length : Int) := of_decide_eq_true (by first | (with_reducible assumption) | assumption)
            obtain ⟨ad174, A174_3, c174_3, e174, hx174_0, hx174_1, hx174_2, hx174_3, hl174_3, hi174_3⟩ := at_T43 HR0.out x5_1 p174 q174
            cases e174
            have HR174_3 := Aside0.mk hi174_3
            have HC174_3 := Aside0.mk hl174_3
            clear hi174_3 hl174_3
            replace p174 := eq_true p174
            replace q174 := eq_true q174
            go_wp2
            go_ret
            exact ⟨by first | rfl | (simp; done) | (simp [*]; done), by repeat (first | exact Drawn0.refl _ | apply Drawn0.step)⟩
        · rw [if_neg c4] at H
          exact absurd H (by simp)
      · rw [if_neg c3] at H
        have c3b0 : decide (x5_1 < (l0.length : Int)) = false := decide_eq_false c3
        clear c3
        obtain rfl := Option.some.inj H
        go_wp2
        go_ret
        exact ⟨by first | rfl | (simp; done) | (simp [*]; done), by repeat (first | exact Drawn0.refl _ | apply Drawn0.step)⟩
end Go.Proofs.Ythofgkmfllccnaa.G
namespace Go.Proofs.Ythofgkmfllccnaa.G
open Go.RowKit Go.Proofs.YthofgkmfllccnaaW.PrintWords Go.Proofs.YthofgkmfllccnaaW.PrintLast Go.Proofs.YthofgkmfllccnaaW.PrintMore
attribute [local go_sem] max2_int min2_int max_two min_two max_three min_three max_four min_four
set_option linter.unusedVariables false
set_option linter.unusedSimpArgs false
def laws_eqByteS.l0 : Nat → List Int → List Int → Int → Option (Bool)
  | 0, _, _, _ => none
  | k + 1, x0, x1, x5 => if x5 < (x0.length : Int) then (if 0 ≤ x5 then (if x5 < (x1.length : Int) then (if (rd x0 x5) = (rd x1 x5) then (laws_eqByteS.l0 k x0 x1 (wrap64 (x5 + 1))) else (some false)) else (none)) else (none)) else (some true)
def laws_eqByteS.f (k : Nat) (l0 : List Int) (l1 : List Int) : Option (Bool) := if (l0.length : Int) = (l1.length : Int) then (laws_eqByteS.l0 k l0 l1 0) else (some false)
set_option maxHeartbeats 8000000 in
set_option maxRecDepth 100000 in
theorem laws_eqByteS.calls (k : Nat) (A0 : Option Addr) (c0 : Nat) (l0 : List Int) (A1 : Option Addr) (c1 : Nat) (l1 : List Int) (r : Bool) (w : World) (hr0 : Kd.C (Kd.int .u8) w A0 l0.length l0) (hc0 : l0.length ≤ c0) (hr1 : Kd.C (Kd.int .u8) w A1 l1.length l1) (hc1 : l1.length ≤ c1) (h : laws_eqByteS.f k l0 l1 = some r) :
    Calls Try.prog 9 #[.slice A0 l0.length c0, .slice A1 l1.length c1] w fun e w' => e = .returned (.bool r) ∧ Drawn0 w w' := by
  have HR0 := Aside0.mk hr0
  have HC0 := Aside0.mk hc0
  clear hr0 hc0
  have HR1 := Aside0.mk hr1
  have HC1 := Aside0.mk hc1
  clear hr1 hc1
  have H : (if (l0.length : Int) = (l1.length : Int) then (laws_eqByteS.l0 k l0 l1 0) else (some false)) = some r := h
  clear h
  by_cases c3 : (l0.length : Int) = (l1.length : Int)
  · rw [if_pos c3] at H
    have c3b0 : ((l0.length : Int) == (l1.length : Int)) = true := beq_iff_eq.mpr c3
    have c3b1 : ((l0.length : Int) != (l1.length : Int)) = false := bne_eq_false_iff_eq.mpr c3
    have c3b2 : (l0.length == l1.length) = true := by first | simpa using c3 | (simp at c3 ⊢; omega)
    clear c3
    have H' := Aside0.mk H
    clear H
    go_enter Try.func9, Try.ntmps9
    go_wp2
    repeat (go_quiet (fail); try go_wp2)
    go_loopg [5] k (fun kq v5 w' => ∃ (x5_1 : Int), v5 = .int .i64 x5_1 ∧ Aside0 (laws_eqByteS.l0 kq l0 l1 x5_1 = some r) ∧ Aside0 (kq ≤ k) ∧ Drawn0 w w')
    case atStart => exact ⟨(0), (by first | rfl | (simp; done) | (simp [*]; done)), H', ⟨Nat.le_refl _⟩, by repeat (first | exact Drawn0.refl _ | apply Drawn0.step)⟩
    case round =>
      clear H'
      try clear c1
      try clear p2
      try clear c3
      try clear c3b0
      try clear c3b1
      try clear c3b2
      obtain ⟨x5_1, rfl, HA, HK1, ⟨m1, rfl⟩⟩ := hrel
      cases gk with
      | zero => exact absurd HA.out (by simp [laws_eqByteS.l0])
      | succ k1 =>
        have H := HA.out
        clear HA
        simp only [laws_eqByteS.l0] at H
        by_cases c4 : x5_1 < (l0.length : Int)
        · rw [if_pos c4] at H
          have c4b0 : decide (x5_1 < (l0.length : Int)) = true := decide_eq_true c4
          clear c4
          by_cases c5 : 0 ≤ x5_1
          · rw [if_pos c5] at H
            have c5b0 : decide (0 ≤ x5_1) = true := decide_eq_true c5
            clear c5
            by_cases c6 : x5_1 < (l1.length : Int)
            · rw [if_pos c6] at H
              have c6b0 : decide (x5_1 < (l1.length : Int)) = true := decide_eq_true c6
              clear c6
              by_cases c7 : (rd l0 x5_1) = (rd l1 x5_1)
              · rw [if_pos c7] at H
                have c7b0 : ((rd l0 x5_1) == (rd l1 x5_1)) = true := beq_iff_eq.mpr c7
                have c7b1 : ((rd l0 x5_1) != (rd l1 x5_1)) = false := bne_eq_false_iff_eq.mpr c7
                clear c7
                have H' := Aside0.mk H
                clear H
                have p164 : 0 ≤ (x5_1 : Int) := of_decide_eq_true (by first | (with_reducible assumption) | assumption)
                have q164 : x5_1 < (l0.length : Int) := of_decide_eq_true (by first | (with_reducible assumption) | assumption)
                obtain ⟨ad164, e164, hx164_0⟩ := Kd.at_int HR0.out x5_1 p164 q164
                cases e164
                replace p164 := eq_true p164
                replace q164 := eq_true q164
                have p165 : 0 ≤ (x5_1 : Int) := of_decide_eq_true (by first | (with_reducible assumption) | assumption)
                have q165 : x5_1 < (l1.length : Int) := of_decide_eq_true (by first | (with_reducible assumption) | assumption)
                obtain ⟨ad165, e165, hx165_0⟩ := Kd.at_int HR1.out x5_1 p165 q165
                cases e165
                replace p165 := eq_true p165
                replace q165 := eq_true q165
                go_wp2
                repeat (go_quiet (fail); try go_wp2)
                go_roundg k1
                case measure => have := HK1.out; omega
                case rel => exact ⟨(wrap64 (x5_1 + 1)), (by first | rfl | (simp; done) | (simp [*]; done)), H', ⟨by have := HK1.out; omega⟩, by repeat (first | exact Drawn0.refl _ | apply Drawn0.step)⟩
              · rw [if_neg c7] at H
                have c7b0 : ((rd l0 x5_1) == (rd l1 x5_1)) = false := beq_eq_false_iff_ne.mpr c7
                have c7b1 : ((rd l0 x5_1) != (rd l1 x5_1)) = true := bne_iff_ne.mpr c7
                obtain rfl := Option.some.inj H
                have p164 : 0 ≤ (x5_1 : Int) := of_decide_eq_true (by first | (with_reducible assumption) | assumption)
                have q164 : x5_1 < (l0.length : Int) := of_decide_eq_true (by first | (with_reducible assumption) | assumption)
                obtain ⟨ad164, e164, hx164_0⟩ := Kd.at_int HR0.out x5_1 p164 q164
                cases e164
                replace p164 := eq_true p164
                replace q164 := eq_true q164
                have p165 : 0 ≤ (x5_1 : Int) := of_decide_eq_true (by first | (with_reducible assumption) | assumption)
                have q165 : x5_1 < (l1.length : Int) := of_decide_eq_true (by first | (with_reducible assumption) | assumption)
                obtain ⟨ad165, e165, hx165_0⟩ := Kd.at_int HR1.out x5_1 p165 q165
                cases e165
                replace p165 := eq_true p165
                replace q165 := eq_true q165
                go_wp2
                repeat (go_quiet (fail); try go_wp2)
                go_ret
                exact ⟨by first | rfl | (simp; done) | (simp [*]; done), by repeat (first | exact Drawn0.refl _ | apply Drawn0.step)⟩
            · rw [if_neg c6] at H
              exact absurd H (by simp)
          · rw [if_neg c5] at H
            exact absurd H (by simp)
        · rw [if_neg c4] at H
          have c4b0 : decide (x5_1 < (l0.length : Int)) = false := decide_eq_false c4
          clear c4
          obtain rfl := Option.some.inj H
          go_wp2
          repeat (go_quiet (fail); try go_wp2)
          go_ret
          exact ⟨by first | rfl | (simp; done) | (simp [*]; done), by repeat (first | exact Drawn0.refl _ | apply Drawn0.step)⟩
  · rw [if_neg c3] at H
    have c3b0 : ((l0.length : Int) == (l1.length : Int)) = false := beq_eq_false_iff_ne.mpr c3
    have c3b1 : ((l0.length : Int) != (l1.length : Int)) = true := bne_iff_ne.mpr c3
    have c3b2 : (l0.length == l1.length) = false := by first | simpa using c3 | (simp at c3 ⊢; omega)
    obtain rfl := Option.some.inj H
    go_enter Try.func9, Try.ntmps9
    go_wp2
    repeat (go_quiet (fail); try go_wp2)
    go_ret
    exact ⟨by first | rfl | (simp; done) | (simp [*]; done), by repeat (first | exact Drawn0.refl _ | apply Drawn0.step)⟩
end Go.Proofs.Ythofgkmfllccnaa.G
