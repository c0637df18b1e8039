/-
  Part 4 of the texts of this claim: XSet, XSortPlain, XSorted, XUnitsImpl, XUnitsSpec, XFailing, XApply, GLawsEqAct, GLawsEqActS, GLawsMarkActS, GLawsHeldActS.
-/
import Derived.Maps.OwnSet
import Derived.Maps.RangeWalk
import Derived.Deep.QuietTactic
import Derived.BigQuiet
import Derived.RegionTactic
import Derived.ChangeAlike
import Derived.BigRegion
import Derived.Test.YtnjmhlhlmokjnaaExP3
namespace Go.Proofs.Ytnjmhlhlmokjnaa.G
open Go.RowKit Go.Maps Go.Proofs.YtnjmhlhlmokjnaaW.PrintWords
set_option linter.unusedVariables false
set_option linter.unusedSimpArgs false
theorem law9 : Keyed Try.prog 9 := string_keyed Try.underlying9
theorem zero4 (w : World) : (zeroValue 4).run Try.prog w = .ok (.bool false) w := by kernel_rfl
def fine (s : ByteArray) : Prop := s.size ≤ 9223372036854775807
theorem key9 {s : ByteArray} (h : fine s) : keyOf Try.prog 9 (.string s) = some (.string s.data.toList) := Go.WideMaps.keyOf_string_mk Try.underlying9 (by unfold fine at h; unfold maxLen; exact h)
theorem plainElem_bool_inv {H : Type} {v : Value} {z : DataW H × List MemPlace} (h : plainElem Try.prog 4 v = some z) : ∃ b, v = .bool b ∧ z = (.lit (.bool b), []) := by
  unfold plainElem at h
  rw [Try.underlying4] at h
  cases v <;> simp at h
  exact ⟨_, rfl, h.symm⟩
theorem keyOf_string_inv {key : Value} {kl : Lit} (h : keyOf Try.prog 9 key = some kl) : ∃ s, key = .string s ∧ kl = .string s.data.toList ∧ fine s := by
  cases key <;> simp [keyOf, Try.underlying9, mapKey] at h
  obtain ⟨hw, rfl⟩ := h
  exact ⟨_, rfl, rfl, by unfold fine; unfold maxLen at hw; exact hw⟩
theorem data_inj {s t : ByteArray} (h : s.data.toList = t.data.toList) : s = t := by
  cases s; cases t
  simp at h
  rw [h]
theorem lit_ne {s t : ByteArray} (h : s ≠ t) : (Lit.string s.data.toList) ≠ .string t.data.toList := fun e => h (data_inj (by injection e))
def SetM (w : World) (b n : Nat) (S : ByteArray → Bool) : Prop :=
  ∃ D : DataW Unit, w.ownsMap Try.prog 9 (plainElem Try.prog 4) b n D ∧ (∀ s, fine s → D.atKey (.string s.data.toList) (.lit (.bool false)) = .lit (.bool (S s))) ∧ ∀ s, fine s → Maps.has D (.string s.data.toList) = S s
section
variable {w w1 : World} {b n : Nat} {S : ByteArray → Bool}
theorem SetM.made (w : World) : SetM (w.alloc (.map #[] 0)) w.heap.size 0 (fun _ => false) :=
  ⟨.map [], World.ownsMap_made w _ _ _, fun _ _ => rfl, fun _ _ => rfl⟩
theorem SetM.lt (h : SetM w b n S) : b < w.heap.size := by obtain ⟨D, h, _⟩ := h; exact h.lt
theorem SetM.mono (h : SetM w b n S) {n' : Nat} (hn : n ≤ n') : SetM w b n' S := by obtain ⟨D, h, r⟩ := h; exact ⟨D, h.mono hn, r⟩
theorem SetM.block (h : SetM w b n S) : ∃ es clock, w.heap[b]? = some (.map es clock) := by
  obtain ⟨D, ⟨es, clock, hb, _⟩, _⟩ := h
  exact ⟨es, clock, hb⟩
theorem SetM.move (h : SetM w b n S) (hm : w1.heap[b]? = w.heap[b]?) : SetM w1 b n S := by
  obtain ⟨D, ⟨es, clock, hb, r0⟩, r⟩ := h
  exact ⟨D, ⟨es, clock, hm.trans hb, r0⟩, r⟩
theorem SetM.below (h : SetM w b n S) (hb : Below w.heap.size w w1) : SetM w1 b n S := h.move (hb.block b h.lt)
theorem SetM.grown (h : SetM w b n S) {row : Option Nat} (hg : w.grownBy w1 row) (hne : some b ≠ row) : SetM w1 b n S := h.move (hg.block b h.lt hne)
theorem SetM.alloc (h : SetM w b n S) (o : Obj) : SetM (w.alloc o) b n S := h.below (below_alloc (Below.refl _ _) o)
theorem SetM.drewN (h : SetM w b n S) (m : Nat) : SetM (w.drewN m) b n S := h.below (pw_below_drewN (Below.refl _ _) m)
theorem SetM.look (h : SetM w b n S) {s : ByteArray} (hs : fine s) : (Instr.lookup 64 (.map (some b)) (.string s) false).run Try.prog w = .ok (.bool (S s)) w := by
  obtain ⟨D, h, ha, _⟩ := h
  obtain ⟨v, ps, hrun, hv⟩ := h.lookup law9 Try.underlying64 (zero4 w) (plainElem_bool Try.underlying4 false) (key9 hs)
  obtain ⟨c, rfl, hc⟩ := plainElem_bool_inv hv
  rw [ha s hs] at hc
  have hc2 : S s = c := by
    simp at hc
    exact hc.1
  rw [hrun, ← hc2]
theorem SetM.put (h : SetM w b n S) (hn : n < 9223372036854775807) {s : ByteArray} (hs : fine s) :
    ∃ w', (Instr.mapUpdate 64 (.map (some b)) (.string s) (.bool true)).run Try.prog w = .ok () w' ∧ SetM w' b (n + 1) (fun x => decide (x = s) || S x) ∧ w.grownBy w' (some b) := by
  obtain ⟨D, h, ha, hh⟩ := h
  obtain ⟨w', hrun, h2, hg⟩ := h.update law9 Try.underlying64 (by unfold maxLen; exact hn) (key9 hs) (plainElem_bool Try.underlying4 true)
  refine ⟨w', hrun, ⟨_, h2, fun x hx => ?_, fun x hx => ?_⟩, hg⟩
  · by_cases e : x = s
    · subst e
      rw [atKey_put_same h.isMap (by trivial)]
      simp
    · rw [atKey_put_other (lit_ne e), ha x hx]
      simp [e]
  · by_cases e : x = s
    · subst e
      rw [has_put_same h.isMap (by trivial)]
      simp
    · rw [has_put_other (lit_ne e), hh x hx]
      simp [e]
theorem SetM.drop (h : SetM w b n S) {s : ByteArray} (hs : fine s) (ty : TypeId) :
    ∃ w', (Builtin.delete_ #[64, 9] ty #[.map (some b), .string s]).run Try.prog w = .ok (.tuple #[]) w' ∧ SetM w' b n (fun x => !decide (x = s) && S x) ∧ w.grownBy w' (some b) := by
  obtain ⟨D, h, ha, hh⟩ := h
  obtain ⟨w', hrun, h2, hg⟩ := h.drop law9 Try.underlying64 (key9 hs) ty
  refine ⟨w', hrun, ⟨_, h2, fun x hx => ?_, fun x hx => ?_⟩, hg.grown⟩
  · by_cases e : x = s
    · subst e
      rw [atKey_del_same]
      simp
    · rw [atKey_del_other (lit_ne e), ha x hx]
      simp [e]
  · by_cases e : x = s
    · subst e
      rw [has_del_same]
      simp
    · rw [has_del_other (lit_ne e), hh x hx]
      simp [e]
end
section
variable (w : World) {ops : Array Oper} {rest : List Oper} {o : Oper} {a : Act} {Q : Exit → Act → World → Prop}
theorem wpList_set_put (hg : o.guard = none) (m x v : Operand) (hop : o.op = Op.mapUpdate 64 m x v) (b n : Nat) (S : ByteArray → Bool) (s : ByteArray)
    (hm : a.eval m = .map (some b)) (hx : a.eval x = .string s) (hv : a.eval v = .bool true) (h : SetM w b n S) (hn : n < 9223372036854775807) (hs : fine s)
    (hK : ∀ w', SetM w' b (n + 1) (fun x => decide (x = s) || S x) → w.grownBy w' (some b) → wpList Try.prog ops Q rest (a.put o.dst undef) w') : wpList Try.prog ops Q (o :: rest) a w := by
  refine wpList_plain hg fun K' hK' => ?_
  obtain ⟨w', hrun, r1, r2⟩ := h.put hn hs
  unfold Oper.wp
  simp [execOp, hop, hm, hx, hv, hrun, Result.andThen]
  exact hK' _ _ (hK w' r1 r2)
theorem wpList_set_look (hg : o.guard = none) (m x : Operand) (hop : o.op = Op.lookup 64 m x false) (b n : Nat) (S : ByteArray → Bool) (s : ByteArray)
    (hm : a.eval m = .map (some b)) (hx : a.eval x = .string s) (h : SetM w b n S) (hs : fine s)
    (hK : wpList Try.prog ops Q rest (a.put o.dst (.bool (S s))) w) : wpList Try.prog ops Q (o :: rest) a w := by
  refine wpList_plain hg fun K' hK' => ?_
  unfold Oper.wp
  simp [execOp, hop, hm, hx, h.look hs, Result.andThen]
  exact hK' _ _ hK
def SetR (w : World) (b r n : Nat) (S L : ByteArray → Bool) (cnt : Nat) : Prop :=
  ∃ (D : DataW Unit) (left : Lit → Bool), w.ranges Try.prog 9 (plainElem Try.prog 4) b r n D left cnt ∧ (∀ s, fine s → D.atKey (.string s.data.toList) (.lit (.bool false)) = .lit (.bool (S s))) ∧ (∀ s, fine s → Maps.has D (.string s.data.toList) = S s) ∧ ∀ s, fine s → left (.string s.data.toList) = L s
theorem SetR.left_eq {w : World} {b r n cnt : Nat} {S L : ByteArray → Bool} (h : SetR w b r n S L cnt) : w.rangeLeft b r = cnt := by obtain ⟨D, left, h, _⟩ := h; exact h.left_eq
theorem SetR.move {w w1 : World} {b r n cnt : Nat} {S L : ByteArray → Bool} (h : SetR w b r n S L cnt) {row : Option Nat} (hg : w.grownBy w1 row) (hb : some b ≠ row) (hr : some r ≠ row) : SetR w1 b r n S L cnt := by
  obtain ⟨D, left, h, x⟩ := h
  exact ⟨D, left, h.kept hg hb hr, x⟩
theorem SetR.lt {w : World} {b r n cnt : Nat} {S L : ByteArray → Bool} (h : SetR w b r n S L cnt) : r < w.heap.size := by obtain ⟨D, left, h, _⟩ := h; exact h.lt
theorem wpList_set_range (hg : o.guard = none) (m : Operand) (hop : o.op = Op.range 64 m) (b n : Nat) (S : ByteArray → Bool) (hm : a.eval m = .map (some b)) (h : SetM w b n S)
    (hK : ∀ w' cnt, SetR w' b w.heap.size n S S cnt → w.grownBy w' none → w'.heap.size = w.heap.size + 1 → wpList Try.prog ops Q rest (a.put o.dst (.pointer (some ⟨w.heap.size, 0, none⟩))) w') :
    wpList Try.prog ops Q (o :: rest) a w := by
  obtain ⟨D, hown, ha, hh⟩ := h
  exact wpList_range_own w hg m 64 hop 9 4 law9 Try.underlying64 _ b n D hm hown (fun w' hr hg hs => hK w' _ ⟨D, _, hr, ha, hh, hh⟩ hg hs)
theorem wpList_set_next (hg : o.guard = none) (it : Operand) (hop : o.op = Op.next it false) (b r n : Nat) (S L : ByteArray → Bool) (cnt : Nat)
    (hit : a.eval it = .pointer (some ⟨r, 0, none⟩)) (h : SetR w b r n S L cnt)
    (hDone : (∀ s, fine s → L s = false) → wpList Try.prog ops Q rest (a.put o.dst (.tuple #[.bool false])) w)
    (hMore : ∀ (s : ByteArray) (w' : World) (cnt' : Nat), fine s → L s = true → S s = true → SetR w' b r n S (fun x => L x && !decide (x = s)) cnt' → cnt' < cnt →
      w.grownBy w' (some r) → w'.heap.size = w.heap.size → (Instr.entry (.pointer (some ⟨r, 0, none⟩))).run Try.prog w' = .ok (.tuple #[.string s, .bool true]) w' → wpList Try.prog ops Q rest (a.put o.dst (.tuple #[.bool true, .string s, .bool true])) w') :
    wpList Try.prog ops Q (o :: rest) a w := by
  obtain ⟨D, left, hr, ha, hh, hl⟩ := h
  refine wpList_next_ranges w hg it hop 9 law9 (plainElem Try.prog 4) Value.string Value.bool (fun key kl hk => by obtain ⟨s, rfl, _⟩ := keyOf_string_inv hk; exact ⟨s, rfl⟩) (fun v y hv => by obtain ⟨c, rfl, _⟩ := plainElem_bool_inv hv; exact ⟨c, rfl⟩)
    b r n D left cnt hit hr (fun _ hl0 => hDone (fun s hs => by rw [← hl s hs]; exact hl0 _)) ?_
  intro s c kl y w' cnt' hkey hlk hv hat hrg hlt hgr hsz hen
  obtain ⟨s', es, rfl, hs⟩ := keyOf_string_inv hkey
  cases es
  obtain ⟨c', ec, rfl⟩ := plainElem_bool_inv hv
  cases ec
  have hS : S s = c := by
    have := (ha s hs).symm.trans (hat (.lit (.bool false)))
    simpa using this
  have hLs : L s = true := by rw [← hl s hs]; exact hlk
  have hhs : S s = true := by
    rw [← hh s hs]
    exact Maps.has_true_of_atKey hat
  have hc : c = true := by rw [← hS]; exact hhs
  subst hc
  refine hMore s w' cnt' hs hLs hhs ⟨D, _, hrg, ha, hh, fun x hx => ?_⟩ hlt hgr hsz hen
  show (left (.string x.data.toList) && !(Lit.string x.data.toList).sameKey (.string s.data.toList)) = _
  rw [hl x hx]
  by_cases e : x = s
  · subst e
    rw [WideAt.sameKey_self (by trivial)]
    simp
  · rw [Maps.sameKey_ne (lit_ne e)]
    simp [e]
end
end Go.Proofs.Ytnjmhlhlmokjnaa.G
namespace Go.Proofs.Ytnjmhlhlmokjnaa.G
set_option linter.unusedVariables false
set_option linter.unusedSimpArgs false
def atB (l : List ByteArray) (i : Nat) : ByteArray := l.getD i ByteArray.empty
def SrtBut (l : List ByteArray) (i j : Nat) : Prop := ∀ a b, a < b → b ≤ i → b ≠ j → lessB (atB l b) (atB l a) = false
def Srt (l : List ByteArray) (i : Nat) : Prop := ∀ a b, a < b → b < i → lessB (atB l b) (atB l a) = false
theorem srt_one (l : List ByteArray) : Srt l 1 := fun a b h k => by omega
theorem srt_start {l : List ByteArray} {i : Nat} (h : Srt l i) : SrtBut l i i := fun a b hab hb hne => h a b hab (by omega)
def swapB (l : List ByteArray) (j : Nat) : List ByteArray := (l.set (j - 1) (atB l j)).set j (atB l (j - 1))
theorem at_set {l : List ByteArray} {i : Nat} (x : ByteArray) (j : Nat) (hi : i < l.length) : atB (l.set i x) j = if i = j then x else atB l j := by
  unfold atB
  simp only [List.getD_eq_getElem?_getD, List.getElem?_set]
  split
  · simp [hi]
  · rfl
theorem at_swap {l : List ByteArray} {j : Nat} (h0 : 0 < j) (hj : j < l.length) (b : Nat) : atB (swapB l j) b = if b = j then atB l (j - 1) else if b = j - 1 then atB l j else atB l b := by
  unfold swapB
  rw [at_set _ _ (by simpa using hj), at_set _ _ (by omega)]
  by_cases h1 : b = j
  · rw [if_pos h1, if_pos h1.symm]
  · rw [if_neg h1, if_neg (fun e => h1 e.symm)]
    by_cases h2 : b = j - 1
    · rw [if_pos h2, if_pos h2.symm]
    · rw [if_neg h2, if_neg (fun e => h2 e.symm)]
theorem swap_perm {l : List ByteArray} {j : Nat} (h0 : 0 < j) (hj : j < l.length) : (swapB l j).Perm l := by
  unfold swapB
  have e1 : atB l j = l[j] := by simp [atB, List.getD_eq_getElem?_getD, hj]
  have e2 : atB l (j - 1) = l[j - 1] := by simp [atB, List.getD_eq_getElem?_getD, show j - 1 < l.length by omega]
  rw [e1, e2]
  exact List.set_set_perm (by omega) hj
theorem srt_swap {l : List ByteArray} {i j : Nat} (h : SrtBut l i j) (h0 : 0 < j) (hj : j ≤ i) (hi : i < l.length) (hlt : lessB (atB l j) (atB l (j - 1)) = true) : SrtBut (swapB l j) i (j - 1) := by
  intro a b hab hb hne
  rw [at_swap h0 (by omega), at_swap h0 (by omega)]
  have asym := lt_asymm hlt
  split
  · subst_vars
    split
    · omega
    · split
      · exact asym
      · exact h a (b - 1) (by omega) (by omega) (by omega)
  · rename_i hbj
    split
    · subst_vars
      exact h (a - 1) b (by omega) hb hbj
    · split
      · subst_vars
        exact h j b (by omega) hb hbj
      · exact h a b hab hb hbj
theorem nlt_trans {a b c : ByteArray} (h : lessB b a = false) (k : lessB c b = false) : lessB c a = false := by
  rcases lt_tri c a with e | e | e
  · rcases lt_tri b a with f | f | f
    · rw [h] at f; cases f
    · subst f; rw [k] at e; cases e
    · rw [lt_trans e f] at k; cases k
  · subst e; exact lt_irrefl _
  · exact lt_asymm e
theorem srt_stop {l : List ByteArray} {i j : Nat} (h : SrtBut l i j) (hj : j ≤ i) (hs : j = 0 ∨ lessB (atB l j) (atB l (j - 1)) = false) : Srt l (i + 1) := by
  intro a b hab hb
  by_cases e : b = j
  · subst e
    rcases hs with hs | hs
    · omega
    · by_cases f : a = b - 1
      · subst f; exact hs
      · exact nlt_trans (h a (b - 1) (by omega) (by omega) (by omega)) hs
  · exact h a b hab (by omega) e
theorem sorted_of_srt {l : List ByteArray} (h : Srt l l.length) : l.Pairwise fun a b => lessB b a = false := by
  rw [List.pairwise_iff_getElem]
  intro a b ha hb hab
  have := h a b hab hb
  simpa [atB, List.getD_eq_getElem?_getD, ha, hb] using this
theorem canon_of_sorted {l m o : List ByteArray} (hs : Srt m m.length) (hp : m.Perm o) (hn : o.Nodup) (hm : ∀ x, x ∈ o ↔ x ∈ l) : m = canonL l :=
  asc_unique _ _ (asc_of_sorted (sorted_of_srt hs) (hp.nodup_iff.2 hn)) (asc_canonL l) (fun x => by rw [hp.mem_iff, hm, mem_canonL])
end Go.Proofs.Ytnjmhlhlmokjnaa.G
namespace Go.Proofs.Ytnjmhlhlmokjnaa.G
open Go.RowKit Go.Maps Go.Proofs.YtnjmhlhlmokjnaaW.PrintWords Go.Proofs.YtnjmhlhlmokjnaaW.PrintLast
set_option linter.unusedVariables false
set_option linter.unusedSimpArgs false
instance (s : ByteArray) : Decidable (fine s) := by unfold fine; infer_instance
def impl_sortedSet.f (l : List ByteArray) : Option (List ByteArray) := if l.length ≤ 1000000 ∧ ∀ s ∈ l, fine s then some (canonL l) else none
theorem rd_mem {l : List ByteArray} {j : Nat} (h : j < l.length) : rdOf ByteArray.empty l (j : Int) ∈ l := by
  rw [rdOf_nat _ _ _ h]
  exact List.getElem_mem h
theorem mem_take_step {l : List ByteArray} {j : Nat} (h : j < l.length) (x : ByteArray) : x ∈ l.take (j + 1) ↔ x = rdOf ByteArray.empty l (j : Int) ∨ x ∈ l.take j := by
  rw [rdOf_nat _ _ _ h, List.take_succ_eq_append_getElem h]
  rw [List.mem_append, List.mem_singleton, or_comm]
theorem len_le_of {α : Type} [DecidableEq α] : ∀ (xs l : List α), xs.Nodup → (∀ x ∈ xs, x ∈ l) → xs.length ≤ l.length
  | [], _, _, _ => Nat.zero_le _
  | x :: xs, l, h, hs => by
    have h' := List.nodup_cons.1 h
    have := len_le_of xs (l.erase x) h'.2 (fun y hy => (List.mem_erase_of_ne (fun e => h'.1 (by rw [← e]; exact hy))).2 (hs y (by simp [hy])))
    have h2 := List.length_erase_of_mem (hs x (by simp))
    have h3 := List.length_pos_of_mem (hs x (by simp))
    simp only [List.length_cons]
    omega
theorem gtr_eq (y x : ByteArray) : (!Op.bytesLess y.toList x.toList && !y.toList == x.toList) = lessB x y := by
  rcases lt_tri y x with h | h | h
  · have h2 := lt_asymm h
    unfold lessB at h h2 ⊢
    rw [h2, h]; rfl
  · subst h
    rw [lt_irrefl]
    simp
  · have h2 := lt_asymm h
    have h3 : (y.toList == x.toList) = false := by
      rw [beq_eq_false_iff_ne]
      intro e
      exact lt_ne h (toList_inj e).symm
    unfold lessB at h2
    rw [h2, h3, h]; rfl
structure Gath (l0 : List ByteArray) (L : ByteArray → Bool) (xs : List ByteArray) : Prop where
  nodup : xs.Nodup
  mem : ∀ x ∈ xs, x ∈ l0 ∧ L x = false
  all : ∀ x ∈ l0, fine x → L x = false → x ∈ xs
theorem Gath.step {l0 : List ByteArray} {L : ByteArray → Bool} {xs : List ByteArray} (h : Gath l0 L xs) {s : ByteArray} (hs : s ∈ l0) (hL : L s = true) : Gath l0 (fun x => L x && !decide (x = s)) (xs ++ [s]) where
  nodup := by
    rw [List.nodup_append]
    refine ⟨h.nodup, by simp, ?_⟩
    intro a ha b hb
    rw [List.mem_singleton.1 hb]
    rintro rfl
    have := (h.mem _ ha).2
    rw [hL] at this; cases this
  mem := by
    intro x hx
    rcases List.mem_append.1 hx with hx | hx
    · exact ⟨(h.mem x hx).1, by simp [(h.mem x hx).2]⟩
    · rw [List.mem_singleton.1 hx]; exact ⟨hs, by simp⟩
  all := by
    intro x hx hf hl
    by_cases e : x = s
    · simp [e]
    · have : L x = false := by simpa [e] using hl
      simp [h.all x hx hf this]
theorem Gath.perm {l0 : List ByteArray} {L : ByteArray → Bool} {xs : List ByteArray} (h : Gath l0 L xs) (hf : ∀ s ∈ l0, fine s) (hd : ∀ s, fine s → L s = false) (x : ByteArray) : x ∈ xs ↔ x ∈ l0 :=
  ⟨fun hx => (h.mem x hx).1, fun hx => h.all x hx (hf x hx) (hd x (hf x hx))⟩
set_option maxHeartbeats 8000000 in
set_option maxRecDepth 100000 in
theorem impl_sortedSet.calls (A0 : Option Addr) (c0 : Nat) (l0 : List ByteArray) (r : List ByteArray) (w : World) (hr0 : Kd.C Kd.string w A0 l0.length l0) (hc0 : l0.length ≤ c0) (h : impl_sortedSet.f l0 = some r) :
    Calls Try.prog 69 #[.slice A0 l0.length c0] w fun e w' => ∃ v0_, e = .returned (v0_) ∧ Kd.R Kd.string 9 w' w.heap.size (fun _ => True) v0_ r ∧ Below w.heap.size w w' := by
  have HR := Aside0.mk hr0
  clear hr0 hc0
  unfold impl_sortedSet.f at h
  have hcond : l0.length ≤ 1000000 ∧ ∀ s ∈ l0, fine s := by
    by_cases c : l0.length ≤ 1000000 ∧ ∀ s ∈ l0, fine s
    · exact c
    · rw [if_neg c] at h; cases h
  rw [if_pos hcond] at h
  obtain rfl := Option.some.inj h
  clear h
  obtain ⟨hlen, hf⟩ := hcond
  have HF := Aside0.mk hf
  clear hf
  have hmm := @run_makeMap Try.prog
  go_enter Try.func69, Try.ntmps69
  go_wp2
  go_loopw [13] (fun i wr => ∃ (j : Nat) (S : ByteArray → Bool), j ≤ l0.length ∧ i = .int .i64 j ∧ Aside0 (SetM wr w.heap.size j S) ∧ Aside0 (∀ x, S x = true ↔ x ∈ l0.take j) ∧ Aside0 (Below w.heap.size w wr)) (fun i _ => l0.length - (intOf i).toNat)
  case atStart => exact ⟨0, _, Nat.zero_le _, rfl, ⟨SetM.made w⟩, ⟨by simp⟩, ⟨below_alloc (Below.refl _ _) _⟩⟩
  case round =>
    obtain ⟨j, S, hj, rfl, HS, HM, HB⟩ := hrel
    by_cases hlt : j < l0.length
    · obtain ⟨ad, hA, x0⟩ := Kd.at_string HR.out (j : Int) (by omega) (by omega)
      cases hA
      obtain ⟨u, hu0⟩ : ∃ u, u = rdOf ByteArray.empty l0 (j : Int) := ⟨_, rfl⟩
      rw [← hu0] at x0
      simp only [Int.toNat_natCast] at x0
      have HU := Aside0.mk hu0
      replace x0 := (HB.out.cell (World.block_lt_of_cell? w _ x0)).trans x0
      have HFu : fine u := by rw [hu0]; exact HF.out _ (rd_mem hlt)
      clear hu0
      go_wp2_with (first | (at_mapUpdate; refine wpList_set_put _ rfl _ _ _ rfl w.heap.size j S u rfl rfl rfl HS.out (by omega) HFu ?_; intro w1 hs1 hg1) | fail)
      go_roundw
      case rel =>
        refine ⟨j + 1, _, hlt, ?_, ⟨hs1⟩, ⟨fun x => ?_⟩, ⟨?_⟩⟩
        · simp
        · rw [mem_take_step hlt, ← HM.out x, ← HU.out]
          simp
        · exact HB.out.grown hg1 HB.out.size (fun k hk => by cases hk; exact Nat.le_refl _)
      case measure => simp [intOf]; omega
    · have hje : j = l0.length := by omega
      subst hje
      go_wp2_with (first | ((with_reducible refine gate_dst (N := 20) rfl ?_); refine Kd.R_lit Kd.string (w0 := w) w.heap.size 9 ?hg (N := 20) ?hd (xs := ([] : List ByteArray)) (inner := []) (ok := fun k => k ≠ w.heap.size) (okp := fun _ => False) ?hr ?hp (fun _ hk => hk.elim) ?hf HB.out HB.out.size (by simp) ?_; (case hd => rfl); (case hg => rfl); (case hf => exact Nat.ne_of_gt HS.out.lt); (case hr => first | (go_simp; done) | (go_simp; rfl)); (case hp => exact (Reps.none _ _)); intro v w3 ho hb hg_ hnew_) | (at_range; refine wpList_set_range _ rfl _ rfl w.heap.size l0.length S rfl (HS.out.grown hg_ (by simp)) ?_; intro w4 cnt4 hr4 hg4 hs4) | fail)
      go_frame
      have HO4 := Aside0.mk (Kd.R_mono (ok' := fun k => k ≠ w.heap.size ∧ k ≠ w3.heap.size) (Kd.R_grown (Kd.R_bound ho) hg4 (fun k hk => by simp)) (fun k hk => ⟨hk.1, Nat.ne_of_lt hk.2.2.1⟩))
      have HB4 := Aside0.mk (hb.grown hg4 hb.size (fun k hk => by cases hk))
      have HR4 := Aside0.mk hr4
      have hrb : w.heap.size < w3.heap.size := Nat.lt_of_lt_of_le HS.out.lt hg_.size
      have hbs : w3.heap.size < w4.heap.size := by omega
      obtain ⟨rb, hrbe⟩ : ∃ rb, rb = w3.heap.size := ⟨_, rfl⟩
      rw [← hrbe] at hrb hbs HR4 HO4 ⊢
      clear hrbe ho hb hg_ hnew_ hr4 hg4 hs4
      have HG4 : Aside0 (Gath l0 S []) := ⟨⟨List.nodup_nil, by simp, fun x hx _ hn => by
        have := (HM.out x).2 (by rw [List.take_length]; exact hx)
        rw [hn] at this; cases this⟩⟩
      go_loopw [6] (fun v6 wr => ∃ (L : ByteArray → Bool) (cnt : Nat) (xs : List ByteArray), Aside0 (SetR wr w.heap.size rb l0.length S L cnt) ∧ Aside0 (Kd.R Kd.string 9 wr w.heap.size (fun k => k ≠ w.heap.size ∧ k ≠ rb) v6 xs) ∧ Aside0 (Gath l0 L xs) ∧ Aside0 (Below w.heap.size w wr) ∧ rb < wr.heap.size) (fun _ wr => wr.rangeLeft w.heap.size rb)
      case atStart => exact ⟨_, _, _, HR4, HO4, HG4, HB4, hbs⟩
      case round =>
        clear HR4 HO4 HG4 HB4 hbs
        obtain ⟨L, cnt, xs, HRr, HO, HG, HBr, hsz⟩ := hrel
        go_wp2_with (first | (at_next; refine wpList_set_next _ rfl _ rfl w.heap.size rb l0.length S L cnt rfl HRr.out ?_ ?_) | fail)
        · intro hdone
          have hperm := fun x => HG.out.perm HF.out hdone x
          have hnd := HG.out.nodup
          have hxl : xs.length ≤ l0.length := len_le_of xs l0 hnd (fun x hx => (HG.out.mem x hx).1)
          have HP := Aside0.mk (And.intro hnd hperm)
          clear hnd hperm hdone HRr HG
          go_wp2_with fail
          go_loopw [8] (fun i wr => ∃ (k : Nat) (ys : List ByteArray), 1 ≤ k ∧ k ≤ 1000001 ∧ i = .int .i64 k ∧ Aside0 (Kd.R Kd.string 9 wr w.heap.size (fun k => k ≠ w.heap.size ∧ k ≠ rb) u6 ys) ∧ Aside0 (ys.Perm xs) ∧ Aside0 (Srt ys k) ∧ Aside0 (Below w.heap.size w wr)) (fun i _ => xs.length - (intOf i).toNat)
          case atStart => exact ⟨1, xs, Nat.le_refl _, by omega, rfl, HO, ⟨List.Perm.refl _⟩, ⟨srt_one _⟩, HBr⟩
          case round =>
            clear HO HBr
            obtain ⟨k, ys, hk1, hk2, rfl, HO, HPm, HS, HBr⟩ := hrel
            have hyl : ys.length = xs.length := HPm.out.length_eq
            by_cases hlt : k < ys.length
            · obtain ⟨g, co, rfl, hgb, hgl, hgc, hGG⟩ := Kd.R_form HO.out (by omega)
              rw [hyl] at HO hlt ⊢
              have hd1 : decide ((k : Int) < (xs.length : Int)) = true := decide_eq_true (by omega)
              go_wp2_with fail
              go_loopw [9] (fun i wr => ∃ (j : Nat) (zs : List ByteArray), j ≤ k ∧ i = .int .i64 j ∧ Aside0 (Kd.R Kd.string 9 wr w.heap.size (fun k => k ≠ w.heap.size ∧ k ≠ rb) (.slice (some ⟨g, 0, none⟩) xs.length co) zs) ∧ Aside0 (zs.Perm xs) ∧ Aside0 (SrtBut zs k j) ∧ Aside0 (Below w.heap.size w wr)) (fun i _ => (intOf i).toNat)
              case atStart => exact ⟨k, ys, Nat.le_refl _, rfl, HO, HPm, ⟨srt_start HS.out⟩, HBr⟩
              case round =>
                clear HO HPm HS HBr hGG hgl
                obtain ⟨j, zs, hjk, rfl, HO, HPm, HS, HBr⟩ := hrel
                have hzl : zs.length = xs.length := HPm.out.length_eq
                have stop : Aside0 (j = 0 ∨ lessB (atB zs j) (atB zs (j - 1)) = false) → Aside0 (Srt zs (k + 1)) := fun h => ⟨srt_stop HS.out hjk h.out⟩
                by_cases hj0 : 0 < j
                · have h0a : decide ((0 : Int) < (j : Int)) = true := decide_eq_true (by omega)
                  have h0b : decide (0 < j) = true := decide_eq_true (by omega)
                  have q0 : ((j : Int) - 1).toNat = j - 1 := by omega
                  have q1 : (j : Int) - 1 = ((j - 1 : Nat) : Int) := by omega
                  obtain ⟨cj, fj⟩ := Kd.R_celln (⟨#[]⟩ : ByteArray) HO.out (j : Int) (by omega) (by omega)
                  obtain ⟨ci, fi⟩ := Kd.R_celln (⟨#[]⟩ : ByteArray) HO.out (j - 1 : Int) (by omega) (by omega)
                  have ex : rdOf (⟨#[]⟩ : ByteArray) zs (j : Int) = atB zs j := rfl
                  have ey : rdOf (⟨#[]⟩ : ByteArray) zs ((j : Int) - 1) = atB zs (j - 1) := by unfold rdOf atB; rw [q0]; rfl
                  rw [ex] at cj
                  rw [ey] at ci
                  rw [q0] at ci fi
                  simp only [Int.toNat_natCast] at cj fj
                  obtain ⟨x, hx⟩ : ∃ x, x = atB zs j := ⟨_, rfl⟩
                  obtain ⟨y, hy⟩ : ∃ y, y = atB zs (j - 1) := ⟨_, rfl⟩
                  rw [← hx] at cj stop
                  rw [← hy] at ci stop
                  have hw1 : IntKind.i64.wrap ((j : Int) - 1) = (j : Int) - 1 := IntWalk.i64_in _ ⟨by omega, by omega⟩
                  have hge : (0 : Int) ≤ (j : Int) - 1 := by omega
                  have hlt1 : (j : Int) - 1 < (xs.length : Int) := by omega
                  have hlt2 : (j : Int) < (xs.length : Int) := by omega
                  have hlt3 : j < xs.length := by omega
                  have HX := Aside0.mk hx
                  have HY := Aside0.mk hy
                  clear hx hy ex ey
                  cases hC : lessB x y with
                  | false =>
                    have hC' : (!Op.bytesLess y.toList x.toList && !y.toList == x.toList) = false := (gtr_eq y x).trans hC
                    have HSt := stop ⟨.inr hC⟩
                    go_wp2_with fail
                    go_quiet (fail)
                    go_wp2_with fail
                    go_roundw
                    case rel => exact ⟨k + 1, zs, by omega, by omega, by simp, ⟨Kd.R_drewN HO.out _⟩, HPm, HSt, ⟨pw_below_drewN HBr.out _⟩⟩
                    case measure => simp [intOf]; omega
                  | true =>
                    have hC' : (!Op.bytesLess y.toList x.toList && !y.toList == x.toList) = true := (gtr_eq y x).trans hC
                    go_wp2_with fail
                    go_quiet (fail)
                    have HO1 := Aside0.mk (Kd.R_drewN HO.out nq)
                    have HB1 := Aside0.mk (pw_below_drewN HBr.out nq)
                    generalize wr.drewN nq = w1 at HO1 HB1 ⊢
                    clear HO HBr cj ci fj fi
                    obtain ⟨cj, fj⟩ := Kd.R_celln (⟨#[]⟩ : ByteArray) HO1.out (j : Int) (by omega) (by omega)
                    obtain ⟨ci, fi⟩ := Kd.R_celln (⟨#[]⟩ : ByteArray) HO1.out (j - 1 : Int) (by omega) (by omega)
                    rw [show rdOf (⟨#[]⟩ : ByteArray) zs (j : Int) = x from HX.out.symm ▸ rfl] at cj
                    rw [show rdOf (⟨#[]⟩ : ByteArray) zs ((j : Int) - 1) = y by rw [HY.out]; unfold rdOf atB; rw [q0]; rfl] at ci
                    rw [q0] at ci fi
                    simp only [Int.toNat_natCast] at cj fj
                    have HP2 : Aside0 (Kd.R Kd.string 9 ((w1.setCell ⟨g, j - 1, none⟩ (.string x)).setCell ⟨g, j, none⟩ (.string y)).drew w.heap.size (fun k => k ≠ w.heap.size ∧ k ≠ rb) (.slice (some ⟨g, 0, none⟩) xs.length co) (swapB zs j)) := ⟨by
                      unfold swapB
                      rw [← HX.out, ← HY.out]
                      exact Kd.R_drew (Kd.R_putn (Kd.R_putn HO1.out ((j - 1 : Nat) : Int) x) ((j : Nat) : Int) y)⟩
                    have HB2 : Aside0 (Below w.heap.size w ((w1.setCell ⟨g, j - 1, none⟩ (.string x)).setCell ⟨g, j, none⟩ (.string y)).drew) := ⟨below_drew1 (below_set (below_set HB1.out hgb) hgb)⟩
                    go_wp2_with fail
                    go_region
                    go_wp2_with fail
                    go_roundw
                    case rel =>
                      exact ⟨j - 1, swapB zs j, by omega, rfl, HP2, ⟨(swap_perm hj0 (by omega)).trans HPm.out⟩, ⟨srt_swap HS.out hj0 hjk (by omega) (by rw [← HX.out, ← HY.out]; exact hC)⟩, HB2⟩
                    case measure => simp [intOf]; omega
                · have hj1 : j = 0 := by omega
                  subst hj1
                  have HSt := stop ⟨.inl rfl⟩
                  go_wp2_with fail
                  go_quiet (fail)
                  go_wp2_with fail
                  go_roundw
                  case rel => exact ⟨k + 1, zs, by omega, by omega, by simp, ⟨Kd.R_drewN HO.out _⟩, HPm, HSt, ⟨pw_below_drewN HBr.out _⟩⟩
                  case measure => simp [intOf]; omega
            · have hd1 : decide ((k : Int) < (xs.length : Int)) = false := decide_eq_false (by omega)
              obtain ⟨A6, c6, rfl⟩ := Kd.R_slice HO.out
              have hres : ys = canonL l0 := canon_of_sorted (o := xs) (fun a b hab hb => HS.out a b hab (by omega)) HPm.out HP.out.1 HP.out.2
              rw [hyl] at HO ⊢
              go_wp2_with fail
              go_ret
              exact ⟨_, rfl, by rw [← hres]; exact Kd.R_mono HO.out (fun _ _ => trivial), HBr.out⟩
        · intro s w5 cnt5 hfs hLs hSs hr5 hlt5 hg5 hs5 hen5
          have hsl : s ∈ l0 := by
            have := (HM.out s).1 hSs
            rwa [List.take_length] at this
          have hO5 := Kd.R_grown HO.out hg5 (fun k hk => by simpa using hk.2)
          have hB5 := HBr.out.grown hg5 HBr.out.size (fun k hk => by cases hk; omega)
          have hxl : xs.length ≤ l0.length := len_le_of xs l0 HG.out.nodup (fun x hx => (HG.out.mem x hx).1)
          have hsz5 : rb < w5.heap.size := by omega
          clear hs5
          go_wp2_with (first | ((with_reducible refine gate_builtin (b := .append) (xs := #[.tmp 27, .tmp 29]) rfl ?_); at_builtin; refine Kd.R_append Kd.string (w0 := w) w.heap.size rfl (.tmp 27) (.tmp 29) 25 9 (.string ⟨#[]⟩) 16 rfl Try.underlying25 info9 rfl (by decide) (by omega) u6 xs s [.string s] (fun k => k ≠ w.heap.size ∧ k ≠ rb) (fun _ => False) rfl rfl ?aP (fun _ hk => hk.elim) ?aF hO5 hB5 ?aS ?aL ?_; (case aP => exact rfl); (case aF => exact (fun k hk => ⟨by omega, by omega⟩)); (case aS => omega); (case aL => omega); intro v1 w1 ho1 hb1 hg1 hat1) | fail)
          go_roundw
          case rel => exact ⟨_, _, _, ⟨hr5.move hg1 (fun e => (HO.out.1 _ e.symm).1 rfl) (fun e => (HO.out.1 _ e.symm).2 rfl)⟩, ⟨ho1⟩, ⟨HG.out.step hsl hLs⟩, ⟨hb1⟩, Nat.lt_of_lt_of_le hsz5 hg1.size⟩
          case measure =>
            rw [(hr5.move hg1 (fun e => (HO.out.1 _ e.symm).1 rfl) (fun e => (HO.out.1 _ e.symm).2 rfl)).left_eq, HRr.out.left_eq]
            exact hlt5
end Go.Proofs.Ytnjmhlhlmokjnaa.G
namespace Go.Proofs.Ytnjmhlhlmokjnaa.G
set_option linter.unusedVariables false
set_option linter.unusedSimpArgs false
open Go.RowKit Go.Proofs.YtnjmhlhlmokjnaaW.PrintWords Go.Proofs.YtnjmhlhlmokjnaaW.PrintLast
set_option maxHeartbeats 8000000 in
set_option maxRecDepth 100000 in
theorem impl_UnitsOk.calls (A0 : Option Addr) (c0 : Nat) (l0 : List S32) (r : Bool) (w : World) (hr0 : Kd.C k32 w A0 l0.length l0) (hc0 : l0.length ≤ c0) (h : impl_UnitsOk.f l0 = some r) :
    Calls Try.prog 14 #[.slice A0 l0.length c0] w fun e w' => e = .returned (.bool r) ∧ Below w.heap.size w w' := by
  have hu := Try.underlying32
  have HR := Aside0.mk hr0
  clear hr0 hc0
  injection h with h
  by_cases hl : 100 < l0.length
  · have hd : decide ((100 : Int) < (l0.length : Int)) = true := decide_eq_true (by omega)
    have hd2 : decide (100 < l0.length) = true := decide_eq_true (by omega)
    have hr : r = false := by rw [← h]; unfold unitsOkB; rw [decide_eq_false (by omega)]; rfl
    subst hr
    clear h hl
    go_enter Try.func14, Try.ntmps14
    go_wp2
    go_ret
    exact ⟨rfl, Below.refl _ _⟩
  · have hd : decide ((100 : Int) < (l0.length : Int)) = false := decide_eq_false (by omega)
    have hd2 : decide (100 < l0.length) = false := decide_eq_false (by omega)
    have hm : l0.length ≤ 100 := by omega
    have H : Aside0 (okFrom l0 0 l0.length = r) := ⟨by rw [← h]; unfold unitsOkB; rw [decide_eq_true hm]; rfl⟩
    clear h hl
    go_enter Try.func14, Try.ntmps14
    go_wp2
    go_loopw [10] (fun i wr => ∃ j : Nat, j ≤ l0.length ∧ i = .int .i64 j ∧ Aside0 (okFrom l0 j (l0.length - j) = r) ∧ Below w.heap.size w wr) (fun i _ => l0.length - (intOf i).toNat)
    case atStart => exact ⟨0, Nat.zero_le _, rfl, H, Below.refl _ _⟩
    case round =>
      obtain ⟨j, hj, rfl, HJ, hB⟩ := hrel
      clear H
      by_cases hlt : j < l0.length
      · have HRr := Aside0.mk (Kd.C_below HR.out hB)
        obtain ⟨ad, A1, c1, A2, c2, hA, x0, x1, x2, x3, x4, l1, g1, l2, g2⟩ := at_T32 HRr.out (j : Int) (by omega) (by omega)
        have G1 := Aside0.mk g1
        have G2 := Aside0.mk g2
        have L1 := Aside0.mk l1
        have L2 := Aside0.mk l2
        clear g1 g2 l1 l2
        cases hA
        simp only [Int.toNat_natCast] at x0 x1 x2 x3 x4
        obtain ⟨u, hu0⟩ : ∃ u, u = rd_T32 l0 (j : Int) := ⟨_, rfl⟩
        have HU := Aside0.mk hu0
        rw [← hu0] at x0 x1 x2 x3 x4 G1 G2 L1 L2
        clear hu0
        go_wp2_with fail
        have hBW := hB.alloc (by simpa using hB.size) (.cells #[Value.string u.f0, Value.slice A1 u.f1.length c1, Value.slice A2 u.f2.length c2, Value.string u.f3, Value.bool u.f4] 32)
        by_cases hj0 : j = 0
        · have h0a : decide ((0 : Int) < (j : Int)) = false := decide_eq_false (by omega)
          have h0b : decide (0 < j) = false := decide_eq_false (by omega)
          have HZ := Aside0.mk hj0
          clear hj0
          cases hN : nameOkB u.f0 with
          | false =>
            have N1 := nameOk_c u.f0 false hN
            have HS := Aside0.mk (step_name HU.out hN)
            go_quiet ((first | (go_at_call 49; exact Calls.quiet_of (N1 _))))
            go_wp2_with fail
            go_ret
            exact ⟨by rw [ok_stop HJ.out hlt HS.out]; rfl, pw_below_drewN hBW _⟩
          | true =>
            have N1 := nameOk_c u.f0 true hN
            cases hC1 : decide (u.f1.length ≤ 20) with
            | false =>
              have he1 : decide ((20 : Int) < (u.f1.length : Int)) = true := decide_eq_true (by first | (have := of_decide_eq_false hC1; omega) | (have := of_decide_eq_true hC1; omega))
              have hf1 : decide (20 < u.f1.length) = true := decide_eq_true (by first | (have := of_decide_eq_false hC1; omega) | (have := of_decide_eq_true hC1; omega))
              have HS := Aside0.mk (step_len1 HU.out hC1)
              go_quiet ((first | (go_at_call 49; exact Calls.quiet_of (N1 _))))
              go_wp2_with fail
              go_ret
              exact ⟨by rw [ok_stop HJ.out hlt HS.out]; rfl, pw_below_drewN hBW _⟩
            | true =>
              have he1 : decide ((20 : Int) < (u.f1.length : Int)) = false := decide_eq_false (by first | (have := of_decide_eq_false hC1; omega) | (have := of_decide_eq_true hC1; omega))
              have hf1 : decide (20 < u.f1.length) = false := decide_eq_false (by first | (have := of_decide_eq_false hC1; omega) | (have := of_decide_eq_true hC1; omega))
              cases hC2 : decide (u.f2.length ≤ 20) with
              | false =>
                have he2 : decide ((20 : Int) < (u.f2.length : Int)) = true := decide_eq_true (by first | (have := of_decide_eq_false hC2; omega) | (have := of_decide_eq_true hC2; omega))
                have hf2 : decide (20 < u.f2.length) = true := decide_eq_true (by first | (have := of_decide_eq_false hC2; omega) | (have := of_decide_eq_true hC2; omega))
                have HS := Aside0.mk (step_len2 HU.out hC2)
                go_quiet ((first | (go_at_call 49; exact Calls.quiet_of (N1 _))))
                go_wp2_with fail
                go_ret
                exact ⟨by rw [ok_stop HJ.out hlt HS.out]; rfl, pw_below_drewN hBW _⟩
              | true =>
                have he2 : decide ((20 : Int) < (u.f2.length : Int)) = false := decide_eq_false (by first | (have := of_decide_eq_false hC2; omega) | (have := of_decide_eq_true hC2; omega))
                have hf2 : decide (20 < u.f2.length) = false := decide_eq_false (by first | (have := of_decide_eq_false hC2; omega) | (have := of_decide_eq_true hC2; omega))
                cases hU1 : upB u.f1 with
                | false =>
                  have HS := Aside0.mk (step_up1 HU.out hU1)
                  go_quiet ((first | (go_at_call 49; exact Calls.quiet_of (N1 _)) | (go_at_call_of 50 (Value.slice A1 u.f1.length c1); exact Calls.quiet_of (up_c A1 c1 u.f1 _ hU1 _ (Kd.C_drewN (Kd.C_alloc G1.out _) _) L1.out))))
                  go_wp2_with fail
                  go_ret
                  exact ⟨by rw [ok_stop HJ.out hlt HS.out]; rfl, pw_below_drewN hBW _⟩
                | true =>
                  cases hU2 : upB u.f2 with
                  | false =>
                    have HS := Aside0.mk (step_up2 HU.out hU2)
                    go_quiet ((first | (go_at_call 49; exact Calls.quiet_of (N1 _)) | (go_at_call_of 50 (Value.slice A1 u.f1.length c1); exact Calls.quiet_of (up_c A1 c1 u.f1 _ hU1 _ (Kd.C_drewN (Kd.C_alloc G1.out _) _) L1.out)) | (go_at_call_of 50 (Value.slice A2 u.f2.length c2); exact Calls.quiet_of (up_c A2 c2 u.f2 _ hU2 _ (Kd.C_drewN (Kd.C_alloc G2.out _) _) L2.out))))
                    go_wp2_with fail
                    go_ret
                    exact ⟨by rw [ok_stop HJ.out hlt HS.out]; rfl, pw_below_drewN hBW _⟩
                  | true =>
                    cases hE : decide (u.f3.size ≤ 4000) with
                    | false =>
                      have hze : decide ((4000 : Int) < (u.f3.size : Int)) = true := decide_eq_true (by first | (have := of_decide_eq_false hE; omega) | (have := of_decide_eq_true hE; omega))
                      have hzf : decide (4000 < u.f3.size) = true := decide_eq_true (by first | (have := of_decide_eq_false hE; omega) | (have := of_decide_eq_true hE; omega))
                      have HS := Aside0.mk (step_size HU.out hE)
                      go_quiet ((first | (go_at_call 49; exact Calls.quiet_of (N1 _)) | (go_at_call_of 50 (Value.slice A1 u.f1.length c1); exact Calls.quiet_of (up_c A1 c1 u.f1 _ hU1 _ (Kd.C_drewN (Kd.C_alloc G1.out _) _) L1.out)) | (go_at_call_of 50 (Value.slice A2 u.f2.length c2); exact Calls.quiet_of (up_c A2 c2 u.f2 _ hU2 _ (Kd.C_drewN (Kd.C_alloc G2.out _) _) L2.out))))
                      go_wp2_with fail
                      go_ret
                      exact ⟨by rw [ok_stop HJ.out hlt HS.out]; rfl, pw_below_drewN hBW _⟩
                    | true =>
                      have hze : decide ((4000 : Int) < (u.f3.size : Int)) = false := decide_eq_false (by first | (have := of_decide_eq_false hE; omega) | (have := of_decide_eq_true hE; omega))
                      have hzf : decide (4000 < u.f3.size) = false := decide_eq_false (by first | (have := of_decide_eq_false hE; omega) | (have := of_decide_eq_true hE; omega))
                      have HS := Aside0.mk (step_true0 HU.out hN hC1 hC2 hU1 hU2 hE HZ.out)
                      go_quiet ((first | (go_at_call 49; exact Calls.quiet_of (N1 _)) | (go_at_call_of 50 (Value.slice A1 u.f1.length c1); exact Calls.quiet_of (up_c A1 c1 u.f1 _ hU1 _ (Kd.C_drewN (Kd.C_alloc G1.out _) _) L1.out)) | (go_at_call_of 50 (Value.slice A2 u.f2.length c2); exact Calls.quiet_of (up_c A2 c2 u.f2 _ hU2 _ (Kd.C_drewN (Kd.C_alloc G2.out _) _) L2.out))))
                      go_wp2_with fail
                      go_roundw
                      case rel => exact ⟨j + 1, by omega, by go_num, ⟨ok_next HJ.out hlt HS.out⟩, pw_below_drewN hBW _⟩
                      case measure => simp [intOf]; omega
        · have h0a : decide ((0 : Int) < (j : Int)) = true := decide_eq_true (by omega)
          have h0b : decide (0 < j) = true := decide_eq_true (by omega)
          obtain ⟨q, hq⟩ : ∃ q : Nat, j = q + 1 := ⟨j - 1, by omega⟩
          have hq1 : q < l0.length := by omega
          have hw : IntKind.i64.wrap ((j : Int) - 1) = (q : Int) := by rw [IntWalk.i64_in _ (by omega)]; omega
          have HP := Aside0.mk hq
          clear hq hj0
          obtain ⟨ad2, B1, e1, B2, e2, hA2, y0, _, _, _, _, _, _, _, _⟩ := at_T32 HRr.out (q : Int) (by omega) (by omega)
          obtain rfl : ad = ad2 := by injection hA2
          simp only [Int.toNat_natCast] at y0
          obtain ⟨v, hv0⟩ : ∃ v, v = rd_T32 l0 (q : Int) := ⟨_, rfl⟩
          have HV := Aside0.mk hv0
          rw [← hv0] at y0
          clear hv0
          have y1 := pw_cell_below (below_alloc (Below.refl _ _) (.cells #[Value.string u.f0, Value.slice A1 u.f1.length c1, Value.slice A2 u.f2.length c2, Value.string u.f3, Value.bool u.f4] 32)) y0
          cases hN : nameOkB u.f0 with
          | false =>
            have N1 := nameOk_c u.f0 false hN
            have HS := Aside0.mk (step_name HU.out hN)
            go_quiet ((first | (go_at_call 49; exact Calls.quiet_of (N1 _))))
            go_wp2_with fail
            go_ret
            exact ⟨by rw [ok_stop HJ.out hlt HS.out]; rfl, pw_below_drewN hBW _⟩
          | true =>
            have N1 := nameOk_c u.f0 true hN
            cases hL : Op.bytesLess v.f0.toList u.f0.toList with
            | false =>
              have HS := Aside0.mk (step_less HU.out hL HP.out HV.out)
              go_quiet ((first | (go_at_call 49; exact Calls.quiet_of (N1 _))))
              go_wp2_with fail
              go_ret
              exact ⟨by rw [ok_stop HJ.out hlt HS.out]; rfl, pw_below_drewN hBW _⟩
            | true =>
              cases hC1 : decide (u.f1.length ≤ 20) with
              | false =>
                have he1 : decide ((20 : Int) < (u.f1.length : Int)) = true := decide_eq_true (by first | (have := of_decide_eq_false hC1; omega) | (have := of_decide_eq_true hC1; omega))
                have hf1 : decide (20 < u.f1.length) = true := decide_eq_true (by first | (have := of_decide_eq_false hC1; omega) | (have := of_decide_eq_true hC1; omega))
                have HS := Aside0.mk (step_len1 HU.out hC1)
                go_quiet ((first | (go_at_call 49; exact Calls.quiet_of (N1 _))))
                go_wp2_with fail
                go_ret
                exact ⟨by rw [ok_stop HJ.out hlt HS.out]; rfl, pw_below_drewN hBW _⟩
              | true =>
                have he1 : decide ((20 : Int) < (u.f1.length : Int)) = false := decide_eq_false (by first | (have := of_decide_eq_false hC1; omega) | (have := of_decide_eq_true hC1; omega))
                have hf1 : decide (20 < u.f1.length) = false := decide_eq_false (by first | (have := of_decide_eq_false hC1; omega) | (have := of_decide_eq_true hC1; omega))
                cases hC2 : decide (u.f2.length ≤ 20) with
                | false =>
                  have he2 : decide ((20 : Int) < (u.f2.length : Int)) = true := decide_eq_true (by first | (have := of_decide_eq_false hC2; omega) | (have := of_decide_eq_true hC2; omega))
                  have hf2 : decide (20 < u.f2.length) = true := decide_eq_true (by first | (have := of_decide_eq_false hC2; omega) | (have := of_decide_eq_true hC2; omega))
                  have HS := Aside0.mk (step_len2 HU.out hC2)
                  go_quiet ((first | (go_at_call 49; exact Calls.quiet_of (N1 _))))
                  go_wp2_with fail
                  go_ret
                  exact ⟨by rw [ok_stop HJ.out hlt HS.out]; rfl, pw_below_drewN hBW _⟩
                | true =>
                  have he2 : decide ((20 : Int) < (u.f2.length : Int)) = false := decide_eq_false (by first | (have := of_decide_eq_false hC2; omega) | (have := of_decide_eq_true hC2; omega))
                  have hf2 : decide (20 < u.f2.length) = false := decide_eq_false (by first | (have := of_decide_eq_false hC2; omega) | (have := of_decide_eq_true hC2; omega))
                  cases hU1 : upB u.f1 with
                  | false =>
                    have HS := Aside0.mk (step_up1 HU.out hU1)
                    go_quiet ((first | (go_at_call 49; exact Calls.quiet_of (N1 _)) | (go_at_call_of 50 (Value.slice A1 u.f1.length c1); exact Calls.quiet_of (up_c A1 c1 u.f1 _ hU1 _ (Kd.C_drewN (Kd.C_alloc G1.out _) _) L1.out))))
                    go_wp2_with fail
                    go_ret
                    exact ⟨by rw [ok_stop HJ.out hlt HS.out]; rfl, pw_below_drewN hBW _⟩
                  | true =>
                    cases hU2 : upB u.f2 with
                    | false =>
                      have HS := Aside0.mk (step_up2 HU.out hU2)
                      go_quiet ((first | (go_at_call 49; exact Calls.quiet_of (N1 _)) | (go_at_call_of 50 (Value.slice A1 u.f1.length c1); exact Calls.quiet_of (up_c A1 c1 u.f1 _ hU1 _ (Kd.C_drewN (Kd.C_alloc G1.out _) _) L1.out)) | (go_at_call_of 50 (Value.slice A2 u.f2.length c2); exact Calls.quiet_of (up_c A2 c2 u.f2 _ hU2 _ (Kd.C_drewN (Kd.C_alloc G2.out _) _) L2.out))))
                      go_wp2_with fail
                      go_ret
                      exact ⟨by rw [ok_stop HJ.out hlt HS.out]; rfl, pw_below_drewN hBW _⟩
                    | true =>
                      cases hE : decide (u.f3.size ≤ 4000) with
                      | false =>
                        have hze : decide ((4000 : Int) < (u.f3.size : Int)) = true := decide_eq_true (by first | (have := of_decide_eq_false hE; omega) | (have := of_decide_eq_true hE; omega))
                        have hzf : decide (4000 < u.f3.size) = true := decide_eq_true (by first | (have := of_decide_eq_false hE; omega) | (have := of_decide_eq_true hE; omega))
                        have HS := Aside0.mk (step_size HU.out hE)
                        go_quiet ((first | (go_at_call 49; exact Calls.quiet_of (N1 _)) | (go_at_call_of 50 (Value.slice A1 u.f1.length c1); exact Calls.quiet_of (up_c A1 c1 u.f1 _ hU1 _ (Kd.C_drewN (Kd.C_alloc G1.out _) _) L1.out)) | (go_at_call_of 50 (Value.slice A2 u.f2.length c2); exact Calls.quiet_of (up_c A2 c2 u.f2 _ hU2 _ (Kd.C_drewN (Kd.C_alloc G2.out _) _) L2.out))))
                        go_wp2_with fail
                        go_ret
                        exact ⟨by rw [ok_stop HJ.out hlt HS.out]; rfl, pw_below_drewN hBW _⟩
                      | true =>
                        have hze : decide ((4000 : Int) < (u.f3.size : Int)) = false := decide_eq_false (by first | (have := of_decide_eq_false hE; omega) | (have := of_decide_eq_true hE; omega))
                        have hzf : decide (4000 < u.f3.size) = false := decide_eq_false (by first | (have := of_decide_eq_false hE; omega) | (have := of_decide_eq_true hE; omega))
                        have HS := Aside0.mk (step_true HU.out hN hL HP.out HV.out hC1 hC2 hU1 hU2 hE)
                        go_quiet ((first | (go_at_call 49; exact Calls.quiet_of (N1 _)) | (go_at_call_of 50 (Value.slice A1 u.f1.length c1); exact Calls.quiet_of (up_c A1 c1 u.f1 _ hU1 _ (Kd.C_drewN (Kd.C_alloc G1.out _) _) L1.out)) | (go_at_call_of 50 (Value.slice A2 u.f2.length c2); exact Calls.quiet_of (up_c A2 c2 u.f2 _ hU2 _ (Kd.C_drewN (Kd.C_alloc G2.out _) _) L2.out))))
                        go_wp2_with fail
                        go_roundw
                        case rel => exact ⟨j + 1, by omega, by go_num, ⟨ok_next HJ.out hlt HS.out⟩, pw_below_drewN hBW _⟩
                        case measure => simp [intOf]; omega
      · have hr : r = true := by
          have := HJ.out
          rw [show l0.length - j = 0 by omega] at this
          exact this.symm
        subst hr
        go_wp2
        go_ret
        exact ⟨rfl, hB⟩
end Go.Proofs.Ytnjmhlhlmokjnaa.G
namespace Go.Proofs.Ytnjmhlhlmokjnaa.G
set_option linter.unusedVariables false
set_option linter.unusedSimpArgs false
open Go.RowKit Go.Proofs.YtnjmhlhlmokjnaaW.PrintWords Go.Proofs.YtnjmhlhlmokjnaaW.PrintLast
set_option maxHeartbeats 8000000 in
set_option maxRecDepth 100000 in
theorem spec_UnitsOk.calls (A0 : Option Addr) (c0 : Nat) (l0 : List S32) (r : Bool) (w : World) (hr0 : Kd.C k32 w A0 l0.length l0) (hc0 : l0.length ≤ c0) (h : spec_UnitsOk.f l0 = some r) :
    Calls Try.prog 13 #[.slice A0 l0.length c0] w fun e w' => e = .returned (.bool r) ∧ Below w.heap.size w w' := by
  have hu := Try.underlying32
  have HR := Aside0.mk hr0
  clear hr0 hc0
  injection h with h
  by_cases hl : 100 < l0.length
  · have hd : decide ((100 : Int) < (l0.length : Int)) = true := decide_eq_true (by omega)
    have hd2 : decide (100 < l0.length) = true := decide_eq_true (by omega)
    have hr : r = false := by rw [← h]; unfold unitsOkB; rw [decide_eq_false (by omega)]; rfl
    subst hr
    clear h hl
    go_enter Try.func13, Try.ntmps13
    go_wp2
    go_ret
    exact ⟨rfl, Below.refl _ _⟩
  · have hd : decide ((100 : Int) < (l0.length : Int)) = false := decide_eq_false (by omega)
    have hd2 : decide (100 < l0.length) = false := decide_eq_false (by omega)
    have hm : l0.length ≤ 100 := by omega
    have H : Aside0 (okFrom l0 0 l0.length = r) := ⟨by rw [← h]; unfold unitsOkB; rw [decide_eq_true hm]; rfl⟩
    clear h hl
    go_enter Try.func13, Try.ntmps13
    go_wp2
    go_loopw [3] (fun i wr => ∃ j : Nat, j ≤ l0.length ∧ i = .int .i64 j ∧ Aside0 (okFrom l0 j (l0.length - j) = r) ∧ Below w.heap.size w wr) (fun i _ => l0.length - (intOf i).toNat)
    case atStart => exact ⟨0, Nat.zero_le _, rfl, H, Below.refl _ _⟩
    case round =>
      obtain ⟨j, hj, rfl, HJ, hB⟩ := hrel
      clear H
      by_cases hlt : j < l0.length
      · have HRr := Aside0.mk (Kd.C_below HR.out hB)
        obtain ⟨ad, A1, c1, A2, c2, hA, x0, x1, x2, x3, x4, l1, g1, l2, g2⟩ := at_T32 HRr.out (j : Int) (by omega) (by omega)
        have G1 := Aside0.mk g1
        have G2 := Aside0.mk g2
        have L1 := Aside0.mk l1
        have L2 := Aside0.mk l2
        clear g1 g2 l1 l2
        cases hA
        simp only [Int.toNat_natCast] at x0 x1 x2 x3 x4
        obtain ⟨u, hu0⟩ : ∃ u, u = rd_T32 l0 (j : Int) := ⟨_, rfl⟩
        have HU := Aside0.mk hu0
        rw [← hu0] at x0 x1 x2 x3 x4 G1 G2 L1 L2
        clear hu0
        go_wp2_with fail
        have hBW := hB.alloc (by simpa using hB.size) (.cells #[Value.string u.f0, Value.slice A1 u.f1.length c1, Value.slice A2 u.f2.length c2, Value.string u.f3, Value.bool u.f4] 32)
        by_cases hj0 : j = 0
        · have h0a : decide ((0 : Int) < (j : Int)) = false := decide_eq_false (by omega)
          have h0b : decide (0 < j) = false := decide_eq_false (by omega)
          have HZ := Aside0.mk hj0
          clear hj0
          cases hN : nameOkB u.f0 with
          | false =>
            have N1 := specNameOk_c u.f0 false hN
            have HS := Aside0.mk (step_name HU.out hN)
            go_quiet ((first | (go_at_call 46; exact Calls.quiet_of (N1 _))))
            go_wp2_with fail
            go_ret
            exact ⟨by rw [ok_stop HJ.out hlt HS.out]; rfl, pw_below_drewN hBW _⟩
          | true =>
            have N1 := specNameOk_c u.f0 true hN
            cases hS1 : (ascB u.f1 && decide (u.f1.length ≤ 20)) with
            | false =>
              have HS := Aside0.mk (step_asc1 HU.out hS1)
              go_quiet ((first | (go_at_call 46; exact Calls.quiet_of (N1 _)) | (go_at_call_of 47 (Value.slice A1 u.f1.length c1); exact Calls.quiet_of (asc_c A1 c1 u.f1 _ hS1 _ (Kd.C_drewN (Kd.C_alloc G1.out _) _) L1.out))))
              go_wp2_with fail
              go_ret
              exact ⟨by rw [ok_stop HJ.out hlt HS.out]; rfl, pw_below_drewN hBW _⟩
            | true =>
              cases hS2 : (ascB u.f2 && decide (u.f2.length ≤ 20)) with
              | false =>
                have HS := Aside0.mk (step_asc2 HU.out hS2)
                go_quiet ((first | (go_at_call 46; exact Calls.quiet_of (N1 _)) | (go_at_call_of 47 (Value.slice A1 u.f1.length c1); exact Calls.quiet_of (asc_c A1 c1 u.f1 _ hS1 _ (Kd.C_drewN (Kd.C_alloc G1.out _) _) L1.out)) | (go_at_call_of 47 (Value.slice A2 u.f2.length c2); exact Calls.quiet_of (asc_c A2 c2 u.f2 _ hS2 _ (Kd.C_drewN (Kd.C_alloc G2.out _) _) L2.out))))
                go_wp2_with fail
                go_ret
                exact ⟨by rw [ok_stop HJ.out hlt HS.out]; rfl, pw_below_drewN hBW _⟩
              | true =>
                cases hU1 : (u.f1.all nameOkB && decide (u.f1.length ≤ 2000)) with
                | false =>
                  have HS := Aside0.mk (step_all1 HU.out hU1 hS1)
                  go_quiet ((first | (go_at_call 46; exact Calls.quiet_of (N1 _)) | (go_at_call_of 47 (Value.slice A1 u.f1.length c1); exact Calls.quiet_of (asc_c A1 c1 u.f1 _ hS1 _ (Kd.C_drewN (Kd.C_alloc G1.out _) _) L1.out)) | (go_at_call_of 47 (Value.slice A2 u.f2.length c2); exact Calls.quiet_of (asc_c A2 c2 u.f2 _ hS2 _ (Kd.C_drewN (Kd.C_alloc G2.out _) _) L2.out)) | (go_at_call_of 48 (Value.slice A1 u.f1.length c1); exact Calls.quiet_of (all_c A1 c1 u.f1 _ hU1 _ (Kd.C_drewN (Kd.C_alloc G1.out _) _) L1.out))))
                  go_wp2_with fail
                  go_ret
                  exact ⟨by rw [ok_stop HJ.out hlt HS.out]; rfl, pw_below_drewN hBW _⟩
                | true =>
                  cases hU2 : (u.f2.all nameOkB && decide (u.f2.length ≤ 2000)) with
                  | false =>
                    have HS := Aside0.mk (step_all2 HU.out hU2 hS2)
                    go_quiet ((first | (go_at_call 46; exact Calls.quiet_of (N1 _)) | (go_at_call_of 47 (Value.slice A1 u.f1.length c1); exact Calls.quiet_of (asc_c A1 c1 u.f1 _ hS1 _ (Kd.C_drewN (Kd.C_alloc G1.out _) _) L1.out)) | (go_at_call_of 47 (Value.slice A2 u.f2.length c2); exact Calls.quiet_of (asc_c A2 c2 u.f2 _ hS2 _ (Kd.C_drewN (Kd.C_alloc G2.out _) _) L2.out)) | (go_at_call_of 48 (Value.slice A1 u.f1.length c1); exact Calls.quiet_of (all_c A1 c1 u.f1 _ hU1 _ (Kd.C_drewN (Kd.C_alloc G1.out _) _) L1.out)) | (go_at_call_of 48 (Value.slice A2 u.f2.length c2); exact Calls.quiet_of (all_c A2 c2 u.f2 _ hU2 _ (Kd.C_drewN (Kd.C_alloc G2.out _) _) L2.out))))
                    go_wp2_with fail
                    go_ret
                    exact ⟨by rw [ok_stop HJ.out hlt HS.out]; rfl, pw_below_drewN hBW _⟩
                  | true =>
                    cases hE : decide (u.f3.size ≤ 4000) with
                    | false =>
                      have hze : decide ((4000 : Int) < (u.f3.size : Int)) = true := decide_eq_true (by first | (have := of_decide_eq_false hE; omega) | (have := of_decide_eq_true hE; omega))
                      have hzf : decide (4000 < u.f3.size) = true := decide_eq_true (by first | (have := of_decide_eq_false hE; omega) | (have := of_decide_eq_true hE; omega))
                      have HS := Aside0.mk (step_size HU.out hE)
                      go_quiet ((first | (go_at_call 46; exact Calls.quiet_of (N1 _)) | (go_at_call_of 47 (Value.slice A1 u.f1.length c1); exact Calls.quiet_of (asc_c A1 c1 u.f1 _ hS1 _ (Kd.C_drewN (Kd.C_alloc G1.out _) _) L1.out)) | (go_at_call_of 47 (Value.slice A2 u.f2.length c2); exact Calls.quiet_of (asc_c A2 c2 u.f2 _ hS2 _ (Kd.C_drewN (Kd.C_alloc G2.out _) _) L2.out)) | (go_at_call_of 48 (Value.slice A1 u.f1.length c1); exact Calls.quiet_of (all_c A1 c1 u.f1 _ hU1 _ (Kd.C_drewN (Kd.C_alloc G1.out _) _) L1.out)) | (go_at_call_of 48 (Value.slice A2 u.f2.length c2); exact Calls.quiet_of (all_c A2 c2 u.f2 _ hU2 _ (Kd.C_drewN (Kd.C_alloc G2.out _) _) L2.out))))
                      go_wp2_with fail
                      go_ret
                      exact ⟨by rw [ok_stop HJ.out hlt HS.out]; rfl, pw_below_drewN hBW _⟩
                    | true =>
                      have hze : decide ((4000 : Int) < (u.f3.size : Int)) = false := decide_eq_false (by first | (have := of_decide_eq_false hE; omega) | (have := of_decide_eq_true hE; omega))
                      have hzf : decide (4000 < u.f3.size) = false := decide_eq_false (by first | (have := of_decide_eq_false hE; omega) | (have := of_decide_eq_true hE; omega))
                      have HS := Aside0.mk (step_trueS0 HU.out hN hS1 hS2 hU1 hU2 hE HZ.out)
                      go_quiet ((first | (go_at_call 46; exact Calls.quiet_of (N1 _)) | (go_at_call_of 47 (Value.slice A1 u.f1.length c1); exact Calls.quiet_of (asc_c A1 c1 u.f1 _ hS1 _ (Kd.C_drewN (Kd.C_alloc G1.out _) _) L1.out)) | (go_at_call_of 47 (Value.slice A2 u.f2.length c2); exact Calls.quiet_of (asc_c A2 c2 u.f2 _ hS2 _ (Kd.C_drewN (Kd.C_alloc G2.out _) _) L2.out)) | (go_at_call_of 48 (Value.slice A1 u.f1.length c1); exact Calls.quiet_of (all_c A1 c1 u.f1 _ hU1 _ (Kd.C_drewN (Kd.C_alloc G1.out _) _) L1.out)) | (go_at_call_of 48 (Value.slice A2 u.f2.length c2); exact Calls.quiet_of (all_c A2 c2 u.f2 _ hU2 _ (Kd.C_drewN (Kd.C_alloc G2.out _) _) L2.out))))
                      go_wp2_with fail
                      go_roundw
                      case rel => exact ⟨j + 1, by omega, by go_num, ⟨ok_next HJ.out hlt HS.out⟩, pw_below_drewN hBW _⟩
                      case measure => simp [intOf]; omega
        · have h0a : decide ((0 : Int) < (j : Int)) = true := decide_eq_true (by omega)
          have h0b : decide (0 < j) = true := decide_eq_true (by omega)
          obtain ⟨q, hq⟩ : ∃ q : Nat, j = q + 1 := ⟨j - 1, by omega⟩
          have hq1 : q < l0.length := by omega
          have hw : IntKind.i64.wrap ((j : Int) - 1) = (q : Int) := by rw [IntWalk.i64_in _ (by omega)]; omega
          have HP := Aside0.mk hq
          clear hq hj0
          obtain ⟨ad2, B1, e1, B2, e2, hA2, y0, _, _, _, _, _, _, _, _⟩ := at_T32 HRr.out (q : Int) (by omega) (by omega)
          obtain rfl : ad = ad2 := by injection hA2
          simp only [Int.toNat_natCast] at y0
          obtain ⟨v, hv0⟩ : ∃ v, v = rd_T32 l0 (q : Int) := ⟨_, rfl⟩
          have HV := Aside0.mk hv0
          rw [← hv0] at y0
          clear hv0
          have y1 := pw_cell_below (below_alloc (Below.refl _ _) (.cells #[Value.string u.f0, Value.slice A1 u.f1.length c1, Value.slice A2 u.f2.length c2, Value.string u.f3, Value.bool u.f4] 32)) y0
          cases hN : nameOkB u.f0 with
          | false =>
            have N1 := specNameOk_c u.f0 false hN
            have HS := Aside0.mk (step_name HU.out hN)
            go_quiet ((first | (go_at_call 46; exact Calls.quiet_of (N1 _))))
            go_wp2_with fail
            go_ret
            exact ⟨by rw [ok_stop HJ.out hlt HS.out]; rfl, pw_below_drewN hBW _⟩
          | true =>
            have N1 := specNameOk_c u.f0 true hN
            cases hL : Op.bytesLess v.f0.toList u.f0.toList with
            | false =>
              have HS := Aside0.mk (step_less HU.out hL HP.out HV.out)
              go_quiet ((first | (go_at_call 46; exact Calls.quiet_of (N1 _))))
              go_wp2_with fail
              go_ret
              exact ⟨by rw [ok_stop HJ.out hlt HS.out]; rfl, pw_below_drewN hBW _⟩
            | true =>
              cases hS1 : (ascB u.f1 && decide (u.f1.length ≤ 20)) with
              | false =>
                have HS := Aside0.mk (step_asc1 HU.out hS1)
                go_quiet ((first | (go_at_call 46; exact Calls.quiet_of (N1 _)) | (go_at_call_of 47 (Value.slice A1 u.f1.length c1); exact Calls.quiet_of (asc_c A1 c1 u.f1 _ hS1 _ (Kd.C_drewN (Kd.C_alloc G1.out _) _) L1.out))))
                go_wp2_with fail
                go_ret
                exact ⟨by rw [ok_stop HJ.out hlt HS.out]; rfl, pw_below_drewN hBW _⟩
              | true =>
                cases hS2 : (ascB u.f2 && decide (u.f2.length ≤ 20)) with
                | false =>
                  have HS := Aside0.mk (step_asc2 HU.out hS2)
                  go_quiet ((first | (go_at_call 46; exact Calls.quiet_of (N1 _)) | (go_at_call_of 47 (Value.slice A1 u.f1.length c1); exact Calls.quiet_of (asc_c A1 c1 u.f1 _ hS1 _ (Kd.C_drewN (Kd.C_alloc G1.out _) _) L1.out)) | (go_at_call_of 47 (Value.slice A2 u.f2.length c2); exact Calls.quiet_of (asc_c A2 c2 u.f2 _ hS2 _ (Kd.C_drewN (Kd.C_alloc G2.out _) _) L2.out))))
                  go_wp2_with fail
                  go_ret
                  exact ⟨by rw [ok_stop HJ.out hlt HS.out]; rfl, pw_below_drewN hBW _⟩
                | true =>
                  cases hU1 : (u.f1.all nameOkB && decide (u.f1.length ≤ 2000)) with
                  | false =>
                    have HS := Aside0.mk (step_all1 HU.out hU1 hS1)
                    go_quiet ((first | (go_at_call 46; exact Calls.quiet_of (N1 _)) | (go_at_call_of 47 (Value.slice A1 u.f1.length c1); exact Calls.quiet_of (asc_c A1 c1 u.f1 _ hS1 _ (Kd.C_drewN (Kd.C_alloc G1.out _) _) L1.out)) | (go_at_call_of 47 (Value.slice A2 u.f2.length c2); exact Calls.quiet_of (asc_c A2 c2 u.f2 _ hS2 _ (Kd.C_drewN (Kd.C_alloc G2.out _) _) L2.out)) | (go_at_call_of 48 (Value.slice A1 u.f1.length c1); exact Calls.quiet_of (all_c A1 c1 u.f1 _ hU1 _ (Kd.C_drewN (Kd.C_alloc G1.out _) _) L1.out))))
                    go_wp2_with fail
                    go_ret
                    exact ⟨by rw [ok_stop HJ.out hlt HS.out]; rfl, pw_below_drewN hBW _⟩
                  | true =>
                    cases hU2 : (u.f2.all nameOkB && decide (u.f2.length ≤ 2000)) with
                    | false =>
                      have HS := Aside0.mk (step_all2 HU.out hU2 hS2)
                      go_quiet ((first | (go_at_call 46; exact Calls.quiet_of (N1 _)) | (go_at_call_of 47 (Value.slice A1 u.f1.length c1); exact Calls.quiet_of (asc_c A1 c1 u.f1 _ hS1 _ (Kd.C_drewN (Kd.C_alloc G1.out _) _) L1.out)) | (go_at_call_of 47 (Value.slice A2 u.f2.length c2); exact Calls.quiet_of (asc_c A2 c2 u.f2 _ hS2 _ (Kd.C_drewN (Kd.C_alloc G2.out _) _) L2.out)) | (go_at_call_of 48 (Value.slice A1 u.f1.length c1); exact Calls.quiet_of (all_c A1 c1 u.f1 _ hU1 _ (Kd.C_drewN (Kd.C_alloc G1.out _) _) L1.out)) | (go_at_call_of 48 (Value.slice A2 u.f2.length c2); exact Calls.quiet_of (all_c A2 c2 u.f2 _ hU2 _ (Kd.C_drewN (Kd.C_alloc G2.out _) _) L2.out))))
                      go_wp2_with fail
                      go_ret
                      exact ⟨by rw [ok_stop HJ.out hlt HS.out]; rfl, pw_below_drewN hBW _⟩
                    | true =>
                      cases hE : decide (u.f3.size ≤ 4000) with
                      | false =>
                        have hze : decide ((4000 : Int) < (u.f3.size : Int)) = true := decide_eq_true (by first | (have := of_decide_eq_false hE; omega) | (have := of_decide_eq_true hE; omega))
                        have hzf : decide (4000 < u.f3.size) = true := decide_eq_true (by first | (have := of_decide_eq_false hE; omega) | (have := of_decide_eq_true hE; omega))
                        have HS := Aside0.mk (step_size HU.out hE)
                        go_quiet ((first | (go_at_call 46; exact Calls.quiet_of (N1 _)) | (go_at_call_of 47 (Value.slice A1 u.f1.length c1); exact Calls.quiet_of (asc_c A1 c1 u.f1 _ hS1 _ (Kd.C_drewN (Kd.C_alloc G1.out _) _) L1.out)) | (go_at_call_of 47 (Value.slice A2 u.f2.length c2); exact Calls.quiet_of (asc_c A2 c2 u.f2 _ hS2 _ (Kd.C_drewN (Kd.C_alloc G2.out _) _) L2.out)) | (go_at_call_of 48 (Value.slice A1 u.f1.length c1); exact Calls.quiet_of (all_c A1 c1 u.f1 _ hU1 _ (Kd.C_drewN (Kd.C_alloc G1.out _) _) L1.out)) | (go_at_call_of 48 (Value.slice A2 u.f2.length c2); exact Calls.quiet_of (all_c A2 c2 u.f2 _ hU2 _ (Kd.C_drewN (Kd.C_alloc G2.out _) _) L2.out))))
                        go_wp2_with fail
                        go_ret
                        exact ⟨by rw [ok_stop HJ.out hlt HS.out]; rfl, pw_below_drewN hBW _⟩
                      | true =>
                        have hze : decide ((4000 : Int) < (u.f3.size : Int)) = false := decide_eq_false (by first | (have := of_decide_eq_false hE; omega) | (have := of_decide_eq_true hE; omega))
                        have hzf : decide (4000 < u.f3.size) = false := decide_eq_false (by first | (have := of_decide_eq_false hE; omega) | (have := of_decide_eq_true hE; omega))
                        have HS := Aside0.mk (step_trueS HU.out hN hL HP.out HV.out hS1 hS2 hU1 hU2 hE)
                        go_quiet ((first | (go_at_call 46; exact Calls.quiet_of (N1 _)) | (go_at_call_of 47 (Value.slice A1 u.f1.length c1); exact Calls.quiet_of (asc_c A1 c1 u.f1 _ hS1 _ (Kd.C_drewN (Kd.C_alloc G1.out _) _) L1.out)) | (go_at_call_of 47 (Value.slice A2 u.f2.length c2); exact Calls.quiet_of (asc_c A2 c2 u.f2 _ hS2 _ (Kd.C_drewN (Kd.C_alloc G2.out _) _) L2.out)) | (go_at_call_of 48 (Value.slice A1 u.f1.length c1); exact Calls.quiet_of (all_c A1 c1 u.f1 _ hU1 _ (Kd.C_drewN (Kd.C_alloc G1.out _) _) L1.out)) | (go_at_call_of 48 (Value.slice A2 u.f2.length c2); exact Calls.quiet_of (all_c A2 c2 u.f2 _ hU2 _ (Kd.C_drewN (Kd.C_alloc G2.out _) _) L2.out))))
                        go_wp2_with fail
                        go_roundw
                        case rel => exact ⟨j + 1, by omega, by go_num, ⟨ok_next HJ.out hlt HS.out⟩, pw_below_drewN hBW _⟩
                        case measure => simp [intOf]; omega
      · have hr : r = true := by
          have := HJ.out
          rw [show l0.length - j = 0 by omega] at this
          exact this.symm
        subst hr
        go_wp2
        go_ret
        exact ⟨rfl, hB⟩
end Go.Proofs.Ytnjmhlhlmokjnaa.G
namespace Go.Proofs.Ytnjmhlhlmokjnaa.G
open Go.RowKit Go.Maps Go.Proofs.YtnjmhlhlmokjnaaW.PrintWords Go.Proofs.YtnjmhlhlmokjnaaW.PrintLast
set_option linter.unusedVariables false
set_option linter.unusedSimpArgs false
theorem fine_name {s : ByteArray} (h : nameOkB s = true) : fine s := by
  unfold nameOkB at h
  simp only [Bool.and_eq_true, decide_eq_true_eq] at h
  unfold fine
  omega
structure UnitGood (u : S32) : Prop where
  name : fine u.f0
  after : u.f1.length ≤ 20
  needs : u.f2.length ≤ 20
  fafter : ∀ n ∈ u.f1, fine n
  fneeds : ∀ n ∈ u.f2, fine n
theorem unit_good {u : S32} (h : unitB u = true) : UnitGood u := by
  unfold unitB upB at h
  simp only [Bool.and_eq_true, decide_eq_true_eq, List.all_eq_true] at h
  obtain ⟨⟨⟨⟨⟨h1, h2⟩, h3⟩, h4⟩, h5⟩, h6⟩ := h
  exact ⟨fine_name h1, h2, h3, fun n hn => fine_name (h4.1 n hn), fun n hn => fine_name (h5.1 n hn)⟩
theorem rdT_mem {l : List S32} {i : Nat} (h : i < l.length) : rd_T32 l (i : Int) ∈ l := by
  rw [rd_T32_nat l i h]
  exact List.getElem_mem h
theorem cell_of_block {w w1 : World} {g o : Nat} (h : w1.heap[g]? = w.heap[g]?) : w1.cell? ⟨g, o, none⟩ = w.cell? ⟨g, o, none⟩ := by
  simp [World.cell?, h]
theorem cell_new_unit (w : World) {s : Value} {a b c d : Value} : ∀ (h : True), (w.alloc (.cells #[s, a, b, c, d] 32)).cell? ⟨w.heap.size, 0, none⟩ = some s := by
  intro _
  have := blk_new w (.cells #[s, a, b, c, d] 32)
  unfold World.cell?
  rw [this]
  rfl
def Alt (us : List S32) (br : List ByteArray) (u : S32) (S S4 : ByteArray → Bool) (n n4 q : Nat) (m m4 : Bool) : Prop :=
  (S4 = S ∧ n4 = n ∧ m4 = m ∧ ∀ x ∈ u.f2.take q, ¬ (hasU us x = false ∨ S x = true)) ∨ (S4 = (fun x => decide (x = u.f0) || S x) ∧ n4 ≤ n + q ∧ m4 = true ∧ FInv us br S4)
theorem Alt.hit {us : List S32} {br : List ByteArray} {u : S32} {S S4 : ByteArray → Bool} {n n4 q : Nat} {m m4 : Bool} (h : Alt us br u S S4 n n4 q m m4) (hI : FInv us br S) (hu : u ∈ us) {x : ByteArray} (hx : x ∈ u.f2) (hb : hasU us x = false ∨ S4 x = true) :
    Alt us br u S (fun x => decide (x = u.f0) || S4 x) n (n4 + 1) (q + 1) m true := by
  rcases h with ⟨rfl, rfl, rfl, _⟩ | ⟨rfl, h2, rfl, h4⟩
  · exact .inr ⟨rfl, by omega, rfl, hI.put hu hx hb⟩
  · have e : (fun x => decide (x = u.f0) || (decide (x = u.f0) || S x)) = fun x => decide (x = u.f0) || S x := by
      funext x; cases decide (x = u.f0) <;> rfl
    exact .inr ⟨e, by omega, rfl, by rw [e]; exact h4⟩
theorem unitOf_c (A0 : Option Addr) (c0 : Nat) (l0 : List S32) (x : ByteArray) (w : World) (hr0 : Kd.C k32 w A0 l0.length l0) (hc0 : l0.length ≤ c0) (hl : l0.length ≤ 9223372036854775807) :
    Calls Try.prog 44 #[.slice A0 l0.length c0, .string x] w fun e w' => e = .returned (.int .i64 (findU l0 x)) ∧ Below w.heap.size w w' := by
  obtain ⟨k, hk⟩ := (unitOf_ev l0 x hl).rounds
  exact impl_unitOf.calls k A0 c0 l0 x _ w hr0 hc0 hk
end Go.Proofs.Ytnjmhlhlmokjnaa.G
namespace Go.Proofs.Ytnjmhlhlmokjnaa.G
open Go.RowKit Go.Maps Go.Proofs.YtnjmhlhlmokjnaaW.PrintWords Go.Proofs.YtnjmhlhlmokjnaaW.PrintLast
set_option linter.unusedVariables false
set_option linter.unusedSimpArgs false
theorem rd55_nat (l : List S55) (i : Nat) (h : i < l.length) : rd_T55 l (i : Int) = l[i] := by
  unfold rd_T55
  rw [Int.toNat_natCast, List.getD_eq_getElem?_getD, List.getElem?_eq_getElem h]
  rfl
end Go.Proofs.Ytnjmhlhlmokjnaa.G
namespace Go.Proofs.Ytnjmhlhlmokjnaa.G
open Go.RowKit Go.Proofs.YtnjmhlhlmokjnaaW.PrintWords Go.Proofs.YtnjmhlhlmokjnaaW.PrintLast Go.Proofs.YtnjmhlhlmokjnaaW.PrintMore
attribute [local go_sem] max2_int min2_int max_two min_two max_three min_three max_four min_four
set_option linter.unusedVariables false
set_option linter.unusedSimpArgs false
def laws_eqAct.f (a0_0 : Int) (a0_1 : ByteArray) (a1_0 : Int) (a1_1 : ByteArray) : Option (Bool) := if a0_0 = a1_0 then (if a0_1.toList = a1_1.toList then (some true) else (some false)) else (some false)
set_option maxHeartbeats 8000000 in
set_option maxRecDepth 100000 in
theorem laws_eqAct.calls (a0_0 : Int) (a0_1 : ByteArray) (a1_0 : Int) (a1_1 : ByteArray) (r : Bool) (w : World) (h : laws_eqAct.f a0_0 a0_1 a1_0 a1_1 = some r) :
    Calls Try.prog 67 #[.agg #[.int .i64 a0_0, .string a0_1], .agg #[.int .i64 a1_0, .string a1_1]] w fun e w' => e = .returned (.bool r) ∧ Below w.heap.size w w' := by
  have hu55 := Try.underlying55
  have HB := Aside0.mk (Below.refl w.heap.size w)
  have H : (if a0_0 = a1_0 then (if a0_1.toList = a1_1.toList then (some true) else (some false)) else (some false)) = some r := h
  clear h
  by_cases c3 : a0_0 = a1_0
  · rw [if_pos c3] at H
    have c3b0 : (a0_0 == a1_0) = true := beq_iff_eq.mpr c3
    have c3b1 : (a0_0 != a1_0) = false := bne_eq_false_iff_eq.mpr c3
    clear c3
    by_cases c4 : a0_1.toList = a1_1.toList
    · rw [if_pos c4] at H
      have c4b0 : (a0_1.toList == a1_1.toList) = true := beq_iff_eq.mpr c4
      have c4b1 : (a0_1.toList != a1_1.toList) = false := bne_eq_false_iff_eq.mpr c4
      clear c4
      obtain rfl := Option.some.inj H
      go_enter Try.func67, Try.ntmps67
      go_wp2_with (first | ((with_reducible refine gate_dst (N := 2) rfl ?_); refine box_event ?hg (N := 2) ?hd (cs := #[.int .i64 a0_0, .string a0_1]) (t := 55) ?hr ?_; (case hd => rfl); (case hg => rfl); (case hr => first | (go_simp; done) | (go_simp; rfl)); intro gb613 hg w5 hbox hb; have n0_ := Aside0.mk (below_step (by repeat (first | (with_reducible first | exact HB.out | apply below_alloc | apply pw_below_drewN | apply below_drew1) | exact HB.out)) hb); have n1_ := Aside0.mk (hbox); have n2_ := Aside0.mk ((by rw [hg]; exact (below_size (by repeat (first | (with_reducible first | exact HB.out | apply below_alloc | apply pw_below_drewN | apply below_drew1) | exact HB.out))) : w.heap.size ≤ gb613)); have n3_ := Aside0.mk ((by rw [hg]; exact (below_size (by repeat (first | (with_reducible first | exact HB.out | apply below_alloc | apply pw_below_drewN | apply below_drew1) | exact HB.out))) : w.heap.size ≤ gb613)); clear HB; have HB := n0_; have BK613 := n1_; have GW613 := n2_; have GE613 := n3_; clear n0_ n1_ n2_ n3_; clear hb hbox hg) | ((with_reducible refine gate_dst (N := 3) rfl ?_); refine box_event ?hg (N := 3) ?hd (cs := #[.int .i64 a1_0, .string a1_1]) (t := 55) ?hr ?_; (case hd => rfl); (case hg => rfl); (case hr => first | (go_simp; done) | (go_simp; rfl)); intro gb614 hg w6 hbox hb; have n0_ := Aside0.mk (blk_below (g := gb613) (o := .cells #[.int .i64 a0_0, .string a0_1] 55 (0, 0)) (by (with_reducible repeat (first | refine blk_drewN ?_ _ | refine blk_drew ?_ | refine blk_alloc ?_ _)); exact BK613.out) hb); have n1_ := Aside0.mk (below_step (by repeat (first | (with_reducible first | exact HB.out | apply below_alloc | apply pw_below_drewN | apply below_drew1 | refine below_set ?_ GE613.out) | exact HB.out)) hb); have n2_ := Aside0.mk (hbox); have n3_ := Aside0.mk ((by rw [hg]; exact (below_size (by repeat (first | (with_reducible first | exact HB.out | apply below_alloc | apply pw_below_drewN | apply below_drew1 | refine below_set ?_ GE613.out) | exact HB.out))) : w.heap.size ≤ gb614)); have n4_ := Aside0.mk ((by rw [hg]; exact (below_size (by repeat (first | (with_reducible first | exact HB.out | apply below_alloc | apply pw_below_drewN | apply below_drew1 | refine below_set ?_ GE613.out) | exact HB.out))) : w.heap.size ≤ gb614)); have n5_ := Aside0.mk ((by rw [hg]; exact Nat.ne_of_lt (blk_lt (g := gb613) (o := .cells #[.int .i64 a0_0, .string a0_1] 55 (0, 0)) (by (with_reducible repeat (first | refine blk_drewN ?_ _ | refine blk_drew ?_ | refine blk_alloc ?_ _)); exact BK613.out)) : gb613 ≠ gb614)); have n6_ := Aside0.mk ((by rw [hg]; exact Nat.ne_of_gt (blk_lt (g := gb613) (o := .cells #[.int .i64 a0_0, .string a0_1] 55 (0, 0)) (by (with_reducible repeat (first | refine blk_drewN ?_ _ | refine blk_drew ?_ | refine blk_alloc ?_ _)); exact BK613.out)) : gb614 ≠ gb613)); clear BK613; clear HB; have BK613 := n0_; have HB := n1_; have BK614 := n2_; have GW614 := n3_; have GE614 := n4_; have NB613_614 := n5_; have NB614_613 := n6_; clear n0_ n1_ n2_ n3_ n4_ n5_ n6_; clear hb hbox hg; have hnb7 := NB613_614.out; have hnc7 := NB614_613.out; have hcz8_0 : w6.cell? ⟨gb613, 0, none⟩ = some (.int .i64 a0_0) := (blk_cell BK613.out 0).trans rfl; have hcz8_1 : w6.cell? ⟨gb613, 1, none⟩ = some (.string a0_1) := (blk_cell BK613.out 1).trans rfl; have hfz8_0 := blk_frozen BK613.out 0; have hfz8_1 := blk_frozen BK613.out 1; have hcz9_0 : w6.cell? ⟨gb614, 0, none⟩ = some (.int .i64 a1_0) := (blk_cell BK614.out 0).trans rfl; have hcz9_1 : w6.cell? ⟨gb614, 1, none⟩ = some (.string a1_1) := (blk_cell BK614.out 1).trans rfl; have hfz9_0 := blk_frozen BK614.out 0; have hfz9_1 := blk_frozen BK614.out 1))
      go_ret
      exact ⟨by first | rfl | (simp [errW_none, errW_some] <;> rfl) | (simp [*, errW_none, errW_some] <;> rfl), by repeat (first | (with_reducible first | exact HB.out | apply below_alloc | apply pw_below_drewN | apply below_drew1 | refine below_set ?_ GE613.out | refine below_set ?_ GE614.out) | exact HB.out)⟩
    · rw [if_neg c4] at H
      have c4b0 : (a0_1.toList == a1_1.toList) = false := beq_eq_false_iff_ne.mpr c4
      have c4b1 : (a0_1.toList != a1_1.toList) = true := bne_iff_ne.mpr c4
      obtain rfl := Option.some.inj H
      go_enter Try.func67, Try.ntmps67
      go_wp2_with (first | ((with_reducible refine gate_dst (N := 2) rfl ?_); refine box_event ?hg (N := 2) ?hd (cs := #[.int .i64 a0_0, .string a0_1]) (t := 55) ?hr ?_; (case hd => rfl); (case hg => rfl); (case hr => first | (go_simp; done) | (go_simp; rfl)); intro gb613 hg w10 hbox hb; have n0_ := Aside0.mk (below_step (by repeat (first | (with_reducible first | exact HB.out | apply below_alloc | apply pw_below_drewN | apply below_drew1) | exact HB.out)) hb); have n1_ := Aside0.mk (hbox); have n2_ := Aside0.mk ((by rw [hg]; exact (below_size (by repeat (first | (with_reducible first | exact HB.out | apply below_alloc | apply pw_below_drewN | apply below_drew1) | exact HB.out))) : w.heap.size ≤ gb613)); have n3_ := Aside0.mk ((by rw [hg]; exact (below_size (by repeat (first | (with_reducible first | exact HB.out | apply below_alloc | apply pw_below_drewN | apply below_drew1) | exact HB.out))) : w.heap.size ≤ gb613)); clear HB; have HB := n0_; have BK613 := n1_; have GW613 := n2_; have GE613 := n3_; clear n0_ n1_ n2_ n3_; clear hb hbox hg) | ((with_reducible refine gate_dst (N := 3) rfl ?_); refine box_event ?hg (N := 3) ?hd (cs := #[.int .i64 a1_0, .string a1_1]) (t := 55) ?hr ?_; (case hd => rfl); (case hg => rfl); (case hr => first | (go_simp; done) | (go_simp; rfl)); intro gb614 hg w11 hbox hb; have n0_ := Aside0.mk (blk_below (g := gb613) (o := .cells #[.int .i64 a0_0, .string a0_1] 55 (0, 0)) (by (with_reducible repeat (first | refine blk_drewN ?_ _ | refine blk_drew ?_ | refine blk_alloc ?_ _)); exact BK613.out) hb); have n1_ := Aside0.mk (below_step (by repeat (first | (with_reducible first | exact HB.out | apply below_alloc | apply pw_below_drewN | apply below_drew1 | refine below_set ?_ GE613.out) | exact HB.out)) hb); have n2_ := Aside0.mk (hbox); have n3_ := Aside0.mk ((by rw [hg]; exact (below_size (by repeat (first | (with_reducible first | exact HB.out | apply below_alloc | apply pw_below_drewN | apply below_drew1 | refine below_set ?_ GE613.out) | exact HB.out))) : w.heap.size ≤ gb614)); have n4_ := Aside0.mk ((by rw [hg]; exact (below_size (by repeat (first | (with_reducible first | exact HB.out | apply below_alloc | apply pw_below_drewN | apply below_drew1 | refine below_set ?_ GE613.out) | exact HB.out))) : w.heap.size ≤ gb614)); have n5_ := Aside0.mk ((by rw [hg]; exact Nat.ne_of_lt (blk_lt (g := gb613) (o := .cells #[.int .i64 a0_0, .string a0_1] 55 (0, 0)) (by (with_reducible repeat (first | refine blk_drewN ?_ _ | refine blk_drew ?_ | refine blk_alloc ?_ _)); exact BK613.out)) : gb613 ≠ gb614)); have n6_ := Aside0.mk ((by rw [hg]; exact Nat.ne_of_gt (blk_lt (g := gb613) (o := .cells #[.int .i64 a0_0, .string a0_1] 55 (0, 0)) (by (with_reducible repeat (first | refine blk_drewN ?_ _ | refine blk_drew ?_ | refine blk_alloc ?_ _)); exact BK613.out)) : gb614 ≠ gb613)); clear BK613; clear HB; have BK613 := n0_; have HB := n1_; have BK614 := n2_; have GW614 := n3_; have GE614 := n4_; have NB613_614 := n5_; have NB614_613 := n6_; clear n0_ n1_ n2_ n3_ n4_ n5_ n6_; clear hb hbox hg; have hnb12 := NB613_614.out; have hnc12 := NB614_613.out; have hcz13_0 : w11.cell? ⟨gb613, 0, none⟩ = some (.int .i64 a0_0) := (blk_cell BK613.out 0).trans rfl; have hcz13_1 : w11.cell? ⟨gb613, 1, none⟩ = some (.string a0_1) := (blk_cell BK613.out 1).trans rfl; have hfz13_0 := blk_frozen BK613.out 0; have hfz13_1 := blk_frozen BK613.out 1; have hcz14_0 : w11.cell? ⟨gb614, 0, none⟩ = some (.int .i64 a1_0) := (blk_cell BK614.out 0).trans rfl; have hcz14_1 : w11.cell? ⟨gb614, 1, none⟩ = some (.string a1_1) := (blk_cell BK614.out 1).trans rfl; have hfz14_0 := blk_frozen BK614.out 0; have hfz14_1 := blk_frozen BK614.out 1))
      go_ret
      exact ⟨by first | rfl | (simp [errW_none, errW_some] <;> rfl) | (simp [*, errW_none, errW_some] <;> rfl), by repeat (first | (with_reducible first | exact HB.out | apply below_alloc | apply pw_below_drewN | apply below_drew1 | refine below_set ?_ GE613.out | refine below_set ?_ GE614.out) | exact HB.out)⟩
  · rw [if_neg c3] at H
    have c3b0 : (a0_0 == a1_0) = false := beq_eq_false_iff_ne.mpr c3
    have c3b1 : (a0_0 != a1_0) = true := bne_iff_ne.mpr c3
    obtain rfl := Option.some.inj H
    go_enter Try.func67, Try.ntmps67
    go_wp2_with (first | ((with_reducible refine gate_dst (N := 2) rfl ?_); refine box_event ?hg (N := 2) ?hd (cs := #[.int .i64 a0_0, .string a0_1]) (t := 55) ?hr ?_; (case hd => rfl); (case hg => rfl); (case hr => first | (go_simp; done) | (go_simp; rfl)); intro gb613 hg w15 hbox hb; have n0_ := Aside0.mk (below_step (by repeat (first | (with_reducible first | exact HB.out | apply below_alloc | apply pw_below_drewN | apply below_drew1) | exact HB.out)) hb); have n1_ := Aside0.mk (hbox); have n2_ := Aside0.mk ((by rw [hg]; exact (below_size (by repeat (first | (with_reducible first | exact HB.out | apply below_alloc | apply pw_below_drewN | apply below_drew1) | exact HB.out))) : w.heap.size ≤ gb613)); have n3_ := Aside0.mk ((by rw [hg]; exact (below_size (by repeat (first | (with_reducible first | exact HB.out | apply below_alloc | apply pw_below_drewN | apply below_drew1) | exact HB.out))) : w.heap.size ≤ gb613)); clear HB; have HB := n0_; have BK613 := n1_; have GW613 := n2_; have GE613 := n3_; clear n0_ n1_ n2_ n3_; clear hb hbox hg) | ((with_reducible refine gate_dst (N := 3) rfl ?_); refine box_event ?hg (N := 3) ?hd (cs := #[.int .i64 a1_0, .string a1_1]) (t := 55) ?hr ?_; (case hd => rfl); (case hg => rfl); (case hr => first | (go_simp; done) | (go_simp; rfl)); intro gb614 hg w16 hbox hb; have n0_ := Aside0.mk (blk_below (g := gb613) (o := .cells #[.int .i64 a0_0, .string a0_1] 55 (0, 0)) (by (with_reducible repeat (first | refine blk_drewN ?_ _ | refine blk_drew ?_ | refine blk_alloc ?_ _)); exact BK613.out) hb); have n1_ := Aside0.mk (below_step (by repeat (first | (with_reducible first | exact HB.out | apply below_alloc | apply pw_below_drewN | apply below_drew1 | refine below_set ?_ GE613.out) | exact HB.out)) hb); have n2_ := Aside0.mk (hbox); have n3_ := Aside0.mk ((by rw [hg]; exact (below_size (by repeat (first | (with_reducible first | exact HB.out | apply below_alloc | apply pw_below_drewN | apply below_drew1 | refine below_set ?_ GE613.out) | exact HB.out))) : w.heap.size ≤ gb614)); have n4_ := Aside0.mk ((by rw [hg]; exact (below_size (by repeat (first | (with_reducible first | exact HB.out | apply below_alloc | apply pw_below_drewN | apply below_drew1 | refine below_set ?_ GE613.out) | exact HB.out))) : w.heap.size ≤ gb614)); have n5_ := Aside0.mk ((by rw [hg]; exact Nat.ne_of_lt (blk_lt (g := gb613) (o := .cells #[.int .i64 a0_0, .string a0_1] 55 (0, 0)) (by (with_reducible repeat (first | refine blk_drewN ?_ _ | refine blk_drew ?_ | refine blk_alloc ?_ _)); exact BK613.out)) : gb613 ≠ gb614)); have n6_ := Aside0.mk ((by rw [hg]; exact Nat.ne_of_gt (blk_lt (g := gb613) (o := .cells #[.int .i64 a0_0, .string a0_1] 55 (0, 0)) (by (with_reducible repeat (first | refine blk_drewN ?_ _ | refine blk_drew ?_ | refine blk_alloc ?_ _)); exact BK613.out)) : gb614 ≠ gb613)); clear BK613; clear HB; have BK613 := n0_; have HB := n1_; have BK614 := n2_; have GW614 := n3_; have GE614 := n4_; have NB613_614 := n5_; have NB614_613 := n6_; clear n0_ n1_ n2_ n3_ n4_ n5_ n6_; clear hb hbox hg; have hnb17 := NB613_614.out; have hnc17 := NB614_613.out; have hcz18_0 : w16.cell? ⟨gb613, 0, none⟩ = some (.int .i64 a0_0) := (blk_cell BK613.out 0).trans rfl; have hcz18_1 : w16.cell? ⟨gb613, 1, none⟩ = some (.string a0_1) := (blk_cell BK613.out 1).trans rfl; have hfz18_0 := blk_frozen BK613.out 0; have hfz18_1 := blk_frozen BK613.out 1; have hcz19_0 : w16.cell? ⟨gb614, 0, none⟩ = some (.int .i64 a1_0) := (blk_cell BK614.out 0).trans rfl; have hcz19_1 : w16.cell? ⟨gb614, 1, none⟩ = some (.string a1_1) := (blk_cell BK614.out 1).trans rfl; have hfz19_0 := blk_frozen BK614.out 0; have hfz19_1 := blk_frozen BK614.out 1))
    go_ret
    exact ⟨by first | rfl | (simp [errW_none, errW_some] <;> rfl) | (simp [*, errW_none, errW_some] <;> rfl), by repeat (first | (with_reducible first | exact HB.out | apply below_alloc | apply pw_below_drewN | apply below_drew1 | refine below_set ?_ GE613.out | refine below_set ?_ GE614.out) | exact HB.out)⟩
end Go.Proofs.Ytnjmhlhlmokjnaa.G
namespace Go.Proofs.Ytnjmhlhlmokjnaa.G
open Go.RowKit Go.Proofs.YtnjmhlhlmokjnaaW.PrintWords Go.Proofs.YtnjmhlhlmokjnaaW.PrintLast Go.Proofs.YtnjmhlhlmokjnaaW.PrintMore
attribute [local go_sem] max2_int min2_int max_two min_two max_three min_three max_four min_four
set_option linter.unusedVariables false
set_option linter.unusedSimpArgs false
def laws_eqActS.l0 : Nat → List (S55) → List (S55) → Int → Option (Bool)
  | 0, _, _, _ => none
  | k + 1, x0, x1, x5 => if x5 < (x0.length : Int) then (if 0 ≤ x5 then (if x5 < (x1.length : Int) then ((laws_eqAct.f ((rd_T55 x0 x5).f0) ((rd_T55 x0 x5).f1) ((rd_T55 x1 x5).f0) ((rd_T55 x1 x5).f1)).bind fun t617 => (if t617 = true then (laws_eqActS.l0 k x0 x1 (wrap64 (x5 + 1))) else (some false))) else (none)) else (none)) else (some true)
def laws_eqActS.f (k : Nat) (l0 : List (S55)) (l1 : List (S55)) : Option (Bool) := if (l0.length : Int) = (l1.length : Int) then (laws_eqActS.l0 k l0 l1 0) else (some false)
def laws_eqActS.T6 : Bool × List (List Nat × List Nat) := (true, [([], []), ([], []), ([0, 1], [0, 1]), ([2], [2]), ([], []), ([], []), ([4, 5], [4, 5]), ([6], [6]), ([3, 7], [3, 7]), ([8], [8])])
def laws_eqActS.B6 : List Nat := [0, 0, 3, 7, 0, 0, 48, 112, 255, 511]
theorem laws_eqActS.tab6 : rtab .any (opsOf Try.f38 6) = laws_eqActS.T6 := by kernel_rfl
theorem laws_eqActS.bits6 : waitsOk laws_eqActS.T6.2 laws_eqActS.B6 = true := by kernel_rfl
set_option maxHeartbeats 8000000 in
set_option maxRecDepth 100000 in
theorem laws_eqActS.calls (k : Nat) (A0 : Option Addr) (c0 : Nat) (l0 : List (S55)) (A1 : Option Addr) (c1 : Nat) (l1 : List (S55)) (r : Bool) (w : World) (hr0 : Kd.C k55 w A0 l0.length l0) (hc0 : l0.length ≤ c0) (hr1 : Kd.C k55 w A1 l1.length l1) (hc1 : l1.length ≤ c1) (h : laws_eqActS.f k l0 l1 = some r) :
    Calls Try.prog 38 #[.slice A0 l0.length c0, .slice A1 l1.length c1] w fun e w' => e = .returned (.bool r) ∧ Below w.heap.size w w' := by
  have hu55 := Try.underlying55
  have HR0 := Aside0.mk hr0
  have HC0 := Aside0.mk hc0
  clear hr0 hc0
  have HR1 := Aside0.mk hr1
  have HC1 := Aside0.mk hc1
  clear hr1 hc1
  have HB := Aside0.mk (Below.refl w.heap.size w)
  have H : (if (l0.length : Int) = (l1.length : Int) then (laws_eqActS.l0 k l0 l1 0) else (some false)) = some r := h
  clear h
  by_cases c3 : (l0.length : Int) = (l1.length : Int)
  · rw [if_pos c3] at H
    have c3b0 : ((l0.length : Int) == (l1.length : Int)) = true := beq_iff_eq.mpr c3
    have c3b1 : ((l0.length : Int) != (l1.length : Int)) = false := bne_eq_false_iff_eq.mpr c3
    have c3b2 : (l0.length == l1.length) = true := by first | simpa using c3 | (simp at c3 ⊢; omega)
    clear c3
    have H' := Aside0.mk H
    clear H
    go_enter Try.func38, Try.ntmps38
    go_wp2
    go_loopg [5] k (fun kq v5 w' => ∃ (x5_1 : Int), v5 = .int .i64 x5_1 ∧ Aside0 (laws_eqActS.l0 kq l0 l1 x5_1 = some r) ∧ Aside0 (kq ≤ k) ∧ Aside0 (Below w.heap.size w w'))
    case atStart => exact ⟨(0), (by first | rfl | (simp; done) | (simp [*]; done)), H', ⟨Nat.le_refl _⟩, ⟨by repeat (first | (with_reducible first | exact HB.out | apply below_alloc | apply pw_below_drewN | apply below_drew1) | exact HB.out)⟩⟩
    case round =>
      clear H'
      try clear c1
      try clear p2
      try clear c3
      try clear c3b0
      try clear c3b1
      try clear c3b2
      obtain ⟨x5_1, rfl, HA, HK1, HB⟩ := hrel
      cases gk with
      | zero => exact absurd HA.out (by simp [laws_eqActS.l0])
      | succ k1 =>
        have H := HA.out
        clear HA
        simp only [laws_eqActS.l0] at H
        by_cases c4 : x5_1 < (l0.length : Int)
        · rw [if_pos c4] at H
          have c4b0 : decide (x5_1 < (l0.length : Int)) = true := decide_eq_true c4
          clear c4
          by_cases c5 : 0 ≤ x5_1
          · rw [if_pos c5] at H
            have c5b0 : decide (0 ≤ x5_1) = true := decide_eq_true c5
            clear c5
            by_cases c6 : x5_1 < (l1.length : Int)
            · rw [if_pos c6] at H
              have c6b0 : decide (x5_1 < (l1.length : Int)) = true := decide_eq_true c6
              clear c6
              replace H := Option.bind_eq_some_iff.mp H
              obtain ⟨t617, A70, H⟩ := H
              replace H : (if t617 = true then (laws_eqActS.l0 k1 l0 l1 (wrap64 (x5_1 + 1))) else (some false)) = some r := H
              have A7 := Aside0.mk A70
              clear A70
              by_cases c8 : t617 = true
              · subst c8
                have H1 : (laws_eqActS.l0 k1 l0 l1 (wrap64 (x5_1 + 1))) = some r := by rw [if_pos rfl] at H; exact H
                clear H
                have H := H1
                clear H1
                have H' := Aside0.mk H
                clear H
                try go_wp2
                have n0_ := Aside0.mk (below_drew1 HB.out)
                clear HB
                have HB := n0_
                clear n0_
                have p615 : 0 ≤ (x5_1 : Int) := of_decide_eq_true (by first | (with_reducible assumption) | assumption)
                have q615 : x5_1 < (l0.length : Int) := of_decide_eq_true (by first | (with_reducible assumption) | assumption)
                obtain ⟨ad615, e615, hx615_0, hx615_1⟩ := at_T55 HR0.out x5_1 p615 q615
                have hw615_1 := hx615_1
                have hw615_0 := hx615_0
                cases e615
                replace hx615_0 := (HB.out.cell (World.block_lt_of_cell? w _ hx615_0)).trans hx615_0
                replace hx615_1 := (HB.out.cell (World.block_lt_of_cell? w _ hx615_1)).trans hx615_1
                replace p615 := eq_true p615
                replace q615 := eq_true q615
                have p616 : 0 ≤ (x5_1 : Int) := of_decide_eq_true (by first | (with_reducible assumption) | assumption)
                have q616 : x5_1 < (l1.length : Int) := of_decide_eq_true (by first | (with_reducible assumption) | assumption)
                obtain ⟨ad616, e616, hx616_0, hx616_1⟩ := at_T55 HR1.out x5_1 p616 q616
                have hw616_1 := hx616_1
                have hw616_0 := hx616_0
                cases e616
                replace hx616_0 := (HB.out.cell (World.block_lt_of_cell? w _ hx616_0)).trans hx616_0
                replace hx616_1 := (HB.out.cell (World.block_lt_of_cell? w _ hx616_1)).trans hx616_1
                replace p616 := eq_true p616
                replace q616 := eq_true q616
                refine start_ (n := 10) (S := fun w' => w'.cell? (ad615.add ((x5_1).toNat * 2)) = some (.int .i64 ((rd_T55 l0 x5_1).f0)) ∧ w'.cell? ⟨(ad615.add ((x5_1).toNat * 2)).block, (ad615.add ((x5_1).toNat * 2)).off + 1, none⟩ = some (.string ((rd_T55 l0 x5_1).f1)) ∧ w'.cell? (ad616.add ((x5_1).toNat * 2)) = some (.int .i64 ((rd_T55 l1 x5_1).f0)) ∧ w'.cell? ⟨(ad616.add ((x5_1).toNat * 2)).block, (ad616.add ((x5_1).toNat * 2)).off + 1, none⟩ = some (.string ((rd_T55 l1 x5_1).f1))) (ds := []) #[false, false, false, false, false, false, false, false, false, false] (by kernel_rfl) rfl rfl ⟨((HB.out.cell (World.block_lt_of_cell? w _ hw615_0)).trans hw615_0), ((HB.out.cell (World.block_lt_of_cell? w _ hw615_1)).trans hw615_1), ((HB.out.cell (World.block_lt_of_cell? w _ hw616_0)).trans hw616_0), ((HB.out.cell (World.block_lt_of_cell? w _ hw616_1)).trans hw616_1)⟩ (fun hHeld => ?_); refine with_tabW laws_eqActS.tab6 laws_eqActS.bits6 (fun HT_ HW_ => ?_)
                generalize wr.drew = w9 at HB hx615_0 hx615_1 hx616_0 hx616_1 hHeld ⊢
                refine pure_ (i := 0) (N := some 17) (v := ?_) (a' := ?_) #[true, false, false, false, false, false, false, false, false, false] rfl rfl (any_of HT_.out (by kernel_rfl)) (fun _ _ _ h => h) (Or.inl ⟨by rfl, ?_⟩) ?_ ?_
                rotate_left
                · intro w'
                  go_simp
                  with_reducible rfl
                rotate_left
                · simp only [Act.put, List.setIfInBounds_toArray, List.set_cons_zero, List.set_cons_succ, i64_w, i32_w]
                  rfl
                refine pure_ (i := 1) (N := some 18) (v := ?_) (a' := ?_) #[true, true, false, false, false, false, false, false, false, false] rfl rfl (any_of HT_.out (by kernel_rfl)) (fun _ _ _ h => h) (Or.inl ⟨by rfl, ?_⟩) ?_ ?_
                rotate_left
                · intro w'
                  go_simp
                  with_reducible rfl
                rotate_left
                · simp only [Act.put, List.setIfInBounds_toArray, List.set_cons_zero, List.set_cons_succ, i64_w, i32_w]
                  rfl
                refine pure_ (i := 2) (N := some 19) (v := ?_) (a' := ?_) #[true, true, true, false, false, false, false, false, false, false] rfl rfl (any_of HT_.out (by kernel_rfl)) (fun _ _ _ h => h) (Or.inl ⟨by rfl, ?_⟩) ?_ ?_
                rotate_left
                · intro w'
                  go_simp
                  with_reducible rfl
                rotate_left
                · simp only [Act.put, List.setIfInBounds_toArray, List.set_cons_zero, List.set_cons_succ, i64_w, i32_w]
                  rfl
                refine pure_ (i := 4) (N := some 21) (v := ?_) (a' := ?_) #[true, true, true, false, true, false, false, false, false, false] rfl rfl (any_of HT_.out (by kernel_rfl)) (fun _ _ _ h => h) (Or.inl ⟨by rfl, ?_⟩) ?_ ?_
                rotate_left
                · intro w'
                  go_simp
                  with_reducible rfl
                rotate_left
                · simp only [Act.put, List.setIfInBounds_toArray, List.set_cons_zero, List.set_cons_succ, i64_w, i32_w]
                  rfl
                refine pure_ (i := 5) (N := some 22) (v := ?_) (a' := ?_) #[true, true, true, false, true, true, false, false, false, false] rfl rfl (any_of HT_.out (by kernel_rfl)) (fun _ _ _ h => h) (Or.inl ⟨by rfl, ?_⟩) ?_ ?_
                rotate_left
                · intro w'
                  go_simp
                  with_reducible rfl
                rotate_left
                · simp only [Act.put, List.setIfInBounds_toArray, List.set_cons_zero, List.set_cons_succ, i64_w, i32_w]
                  rfl
                refine pure_ (i := 6) (N := some 23) (v := ?_) (a' := ?_) #[true, true, true, false, true, true, true, false, false, false] rfl rfl (any_of HT_.out (by kernel_rfl)) (fun _ _ _ h => h) (Or.inl ⟨by rfl, ?_⟩) ?_ ?_
                rotate_left
                · intro w'
                  go_simp
                  with_reducible rfl
                rotate_left
                · simp only [Act.put, List.setIfInBounds_toArray, List.set_cons_zero, List.set_cons_succ, i64_w, i32_w]
                  rfl
                refine take_ (i := 3) (N := some 20) (v := ?_) (a' := ?_) #[true, true, true, true, true, true, true, false, false, false] rfl rfl (take_ofW HT_.out HW_.out (by kernel_rfl)) (fun _ _ _ h => h) (Or.inl ⟨by rfl, ?_⟩) hHeld ?_ ?_
                rotate_left
                · rintro w' ⟨s0, s1, s2, s3⟩
                  go_simp
                  with_reducible rfl
                rotate_left
                · simp only [Act.put, List.setIfInBounds_toArray, List.set_cons_zero, List.set_cons_succ, i64_w, i32_w]
                  rfl
                refine take_ (i := 7) (N := some 24) (v := ?_) (a' := ?_) #[true, true, true, true, true, true, true, true, false, false] rfl rfl (take_ofW HT_.out HW_.out (by kernel_rfl)) (fun _ _ _ h => h) (Or.inl ⟨by rfl, ?_⟩) hHeld ?_ ?_
                rotate_left
                · rintro w' ⟨s0, s1, s2, s3⟩
                  go_simp
                  with_reducible rfl
                rotate_left
                · simp only [Act.put, List.setIfInBounds_toArray, List.set_cons_zero, List.set_cons_succ, i64_w, i32_w]
                  rfl
                refine one_ (i := 8) (N := some 25) #[true, true, true, true, true, true, true, true, true, false] rfl rfl (one_of HT_.out (by kernel_rfl)) (by decide) (fun K hK => ?_)
                refine goes_ Try.func67 (by kernel_rfl) rfl #[.agg #[.int .i64 ((rd_T55 l0 x5_1).f0), .string ((rd_T55 l0 x5_1).f1)], .agg #[.int .i64 ((rd_T55 l1 x5_1).f0), .string ((rd_T55 l1 x5_1).f1)]] (by rfl) rfl rfl (by (try simp only [List.map_toArray, List.map_cons, List.map_nil]); first | done | rfl | (simp only [List.length_drop, List.length_take]; rfl)) ?_
                with_reducible refine (laws_eqAct.calls ((rd_T55 l0 x5_1).f0) ((rd_T55 l0 x5_1).f1) ((rd_T55 l1 x5_1).f0) ((rd_T55 l1 x5_1).f1) true _ A7.out).mono ?_
                rintro e w10 ⟨rfl, hb⟩
                refine ⟨_, rfl, ?_⟩
                have n0_ := Aside0.mk (below_step (by repeat (first | (with_reducible first | exact HB.out | apply below_alloc | apply pw_below_drewN | apply below_drew1) | exact HB.out)) hb)
                clear HB
                have HB := n0_
                clear n0_
                (try clear hb)
                (try clear hb2)
                (try clear hk)
                (try clear hi)
                refine hK.out _ _ ⟨((HB.out.cell (World.block_lt_of_cell? w _ hw615_0)).trans hw615_0), ((HB.out.cell (World.block_lt_of_cell? w _ hw615_1)).trans hw615_1), ((HB.out.cell (World.block_lt_of_cell? w _ hw616_0)).trans hw616_0), ((HB.out.cell (World.block_lt_of_cell? w _ hw616_1)).trans hw616_1)⟩ (fun hHeld => ?_)
                clear hK K
                refine norm_ (a' := ?_) ?_ ?_
                rotate_left
                · show Act.put _ (some 25) _ = _
                  simp only [Act.put, List.setIfInBounds_toArray, List.set_cons_zero, List.set_cons_succ, i64_w, i32_w]
                  rfl
                refine pure_ (i := 9) (N := some 26) (v := ?_) (a' := ?_) #[true, true, true, true, true, true, true, true, true, true] rfl rfl (any_of HT_.out (by kernel_rfl)) (fun _ _ _ h => h) (Or.inl ⟨by rfl, ?_⟩) ?_ ?_
                rotate_left
                · intro w'
                  go_simp
                  with_reducible rfl
                rotate_left
                · simp only [Act.put, List.setIfInBounds_toArray, List.set_cons_zero, List.set_cons_succ, i64_w, i32_w]
                  rfl
                refine done_ (done_of HT_.out (by kernel_rfl)) ?_
                try go_wp2
                go_roundg k1
                case measure => have := HK1.out; omega
                case rel => exact ⟨(wrap64 (x5_1 + 1)), (by first | rfl | (simp; done) | (simp [*]; done)), H', ⟨by have := HK1.out; omega⟩, ⟨by repeat (first | (with_reducible first | exact HB.out | apply below_alloc | apply pw_below_drewN | apply below_drew1) | exact HB.out)⟩⟩
              · replace c8 := Bool.eq_false_iff.mpr c8
                subst c8
                have H1 : (some false) = some r := by rw [if_neg (show ¬ (false = true) by decide)] at H; exact H
                clear H
                have H := H1
                clear H1
                obtain rfl := Option.some.inj H
                try go_wp2
                have n0_ := Aside0.mk (below_drew1 HB.out)
                clear HB
                have HB := n0_
                clear n0_
                have p615 : 0 ≤ (x5_1 : Int) := of_decide_eq_true (by first | (with_reducible assumption) | assumption)
                have q615 : x5_1 < (l0.length : Int) := of_decide_eq_true (by first | (with_reducible assumption) | assumption)
                obtain ⟨ad615, e615, hx615_0, hx615_1⟩ := at_T55 HR0.out x5_1 p615 q615
                have hw615_1 := hx615_1
                have hw615_0 := hx615_0
                cases e615
                replace hx615_0 := (HB.out.cell (World.block_lt_of_cell? w _ hx615_0)).trans hx615_0
                replace hx615_1 := (HB.out.cell (World.block_lt_of_cell? w _ hx615_1)).trans hx615_1
                replace p615 := eq_true p615
                replace q615 := eq_true q615
                have p616 : 0 ≤ (x5_1 : Int) := of_decide_eq_true (by first | (with_reducible assumption) | assumption)
                have q616 : x5_1 < (l1.length : Int) := of_decide_eq_true (by first | (with_reducible assumption) | assumption)
                obtain ⟨ad616, e616, hx616_0, hx616_1⟩ := at_T55 HR1.out x5_1 p616 q616
                have hw616_1 := hx616_1
                have hw616_0 := hx616_0
                cases e616
                replace hx616_0 := (HB.out.cell (World.block_lt_of_cell? w _ hx616_0)).trans hx616_0
                replace hx616_1 := (HB.out.cell (World.block_lt_of_cell? w _ hx616_1)).trans hx616_1
                replace p616 := eq_true p616
                replace q616 := eq_true q616
                refine start_ (n := 10) (S := fun w' => w'.cell? (ad615.add ((x5_1).toNat * 2)) = some (.int .i64 ((rd_T55 l0 x5_1).f0)) ∧ w'.cell? ⟨(ad615.add ((x5_1).toNat * 2)).block, (ad615.add ((x5_1).toNat * 2)).off + 1, none⟩ = some (.string ((rd_T55 l0 x5_1).f1)) ∧ w'.cell? (ad616.add ((x5_1).toNat * 2)) = some (.int .i64 ((rd_T55 l1 x5_1).f0)) ∧ w'.cell? ⟨(ad616.add ((x5_1).toNat * 2)).block, (ad616.add ((x5_1).toNat * 2)).off + 1, none⟩ = some (.string ((rd_T55 l1 x5_1).f1))) (ds := []) #[false, false, false, false, false, false, false, false, false, false] (by kernel_rfl) rfl rfl ⟨((HB.out.cell (World.block_lt_of_cell? w _ hw615_0)).trans hw615_0), ((HB.out.cell (World.block_lt_of_cell? w _ hw615_1)).trans hw615_1), ((HB.out.cell (World.block_lt_of_cell? w _ hw616_0)).trans hw616_0), ((HB.out.cell (World.block_lt_of_cell? w _ hw616_1)).trans hw616_1)⟩ (fun hHeld => ?_); refine with_tabW laws_eqActS.tab6 laws_eqActS.bits6 (fun HT_ HW_ => ?_)
                generalize wr.drew = w11 at HB hx615_0 hx615_1 hx616_0 hx616_1 hHeld ⊢
                refine pure_ (i := 0) (N := some 17) (v := ?_) (a' := ?_) #[true, false, false, false, false, false, false, false, false, false] rfl rfl (any_of HT_.out (by kernel_rfl)) (fun _ _ _ h => h) (Or.inl ⟨by rfl, ?_⟩) ?_ ?_
                rotate_left
                · intro w'
                  go_simp
                  with_reducible rfl
                rotate_left
                · simp only [Act.put, List.setIfInBounds_toArray, List.set_cons_zero, List.set_cons_succ, i64_w, i32_w]
                  rfl
                refine pure_ (i := 1) (N := some 18) (v := ?_) (a' := ?_) #[true, true, false, false, false, false, false, false, false, false] rfl rfl (any_of HT_.out (by kernel_rfl)) (fun _ _ _ h => h) (Or.inl ⟨by rfl, ?_⟩) ?_ ?_
                rotate_left
                · intro w'
                  go_simp
                  with_reducible rfl
                rotate_left
                · simp only [Act.put, List.setIfInBounds_toArray, List.set_cons_zero, List.set_cons_succ, i64_w, i32_w]
                  rfl
                refine pure_ (i := 2) (N := some 19) (v := ?_) (a' := ?_) #[true, true, true, false, false, false, false, false, false, false] rfl rfl (any_of HT_.out (by kernel_rfl)) (fun _ _ _ h => h) (Or.inl ⟨by rfl, ?_⟩) ?_ ?_
                rotate_left
                · intro w'
                  go_simp
                  with_reducible rfl
                rotate_left
                · simp only [Act.put, List.setIfInBounds_toArray, List.set_cons_zero, List.set_cons_succ, i64_w, i32_w]
                  rfl
                refine pure_ (i := 4) (N := some 21) (v := ?_) (a' := ?_) #[true, true, true, false, true, false, false, false, false, false] rfl rfl (any_of HT_.out (by kernel_rfl)) (fun _ _ _ h => h) (Or.inl ⟨by rfl, ?_⟩) ?_ ?_
                rotate_left
                · intro w'
                  go_simp
                  with_reducible rfl
                rotate_left
                · simp only [Act.put, List.setIfInBounds_toArray, List.set_cons_zero, List.set_cons_succ, i64_w, i32_w]
                  rfl
                refine pure_ (i := 5) (N := some 22) (v := ?_) (a' := ?_) #[true, true, true, false, true, true, false, false, false, false] rfl rfl (any_of HT_.out (by kernel_rfl)) (fun _ _ _ h => h) (Or.inl ⟨by rfl, ?_⟩) ?_ ?_
                rotate_left
                · intro w'
                  go_simp
                  with_reducible rfl
                rotate_left
                · simp only [Act.put, List.setIfInBounds_toArray, List.set_cons_zero, List.set_cons_succ, i64_w, i32_w]
                  rfl
                refine pure_ (i := 6) (N := some 23) (v := ?_) (a' := ?_) #[true, true, true, false, true, true, true, false, false, false] rfl rfl (any_of HT_.out (by kernel_rfl)) (fun _ _ _ h => h) (Or.inl ⟨by rfl, ?_⟩) ?_ ?_
                rotate_left
                · intro w'
                  go_simp
                  with_reducible rfl
                rotate_left
                · simp only [Act.put, List.setIfInBounds_toArray, List.set_cons_zero, List.set_cons_succ, i64_w, i32_w]
                  rfl
                refine take_ (i := 3) (N := some 20) (v := ?_) (a' := ?_) #[true, true, true, true, true, true, true, false, false, false] rfl rfl (take_ofW HT_.out HW_.out (by kernel_rfl)) (fun _ _ _ h => h) (Or.inl ⟨by rfl, ?_⟩) hHeld ?_ ?_
                rotate_left
                · rintro w' ⟨s0, s1, s2, s3⟩
                  go_simp
                  with_reducible rfl
                rotate_left
                · simp only [Act.put, List.setIfInBounds_toArray, List.set_cons_zero, List.set_cons_succ, i64_w, i32_w]
                  rfl
                refine take_ (i := 7) (N := some 24) (v := ?_) (a' := ?_) #[true, true, true, true, true, true, true, true, false, false] rfl rfl (take_ofW HT_.out HW_.out (by kernel_rfl)) (fun _ _ _ h => h) (Or.inl ⟨by rfl, ?_⟩) hHeld ?_ ?_
                rotate_left
                · rintro w' ⟨s0, s1, s2, s3⟩
                  go_simp
                  with_reducible rfl
                rotate_left
                · simp only [Act.put, List.setIfInBounds_toArray, List.set_cons_zero, List.set_cons_succ, i64_w, i32_w]
                  rfl
                refine one_ (i := 8) (N := some 25) #[true, true, true, true, true, true, true, true, true, false] rfl rfl (one_of HT_.out (by kernel_rfl)) (by decide) (fun K hK => ?_)
                refine goes_ Try.func67 (by kernel_rfl) rfl #[.agg #[.int .i64 ((rd_T55 l0 x5_1).f0), .string ((rd_T55 l0 x5_1).f1)], .agg #[.int .i64 ((rd_T55 l1 x5_1).f0), .string ((rd_T55 l1 x5_1).f1)]] (by rfl) rfl rfl (by (try simp only [List.map_toArray, List.map_cons, List.map_nil]); first | done | rfl | (simp only [List.length_drop, List.length_take]; rfl)) ?_
                with_reducible refine (laws_eqAct.calls ((rd_T55 l0 x5_1).f0) ((rd_T55 l0 x5_1).f1) ((rd_T55 l1 x5_1).f0) ((rd_T55 l1 x5_1).f1) false _ A7.out).mono ?_
                rintro e w12 ⟨rfl, hb⟩
                refine ⟨_, rfl, ?_⟩
                have n0_ := Aside0.mk (below_step (by repeat (first | (with_reducible first | exact HB.out | apply below_alloc | apply pw_below_drewN | apply below_drew1) | exact HB.out)) hb)
                clear HB
                have HB := n0_
                clear n0_
                (try clear hb)
                (try clear hb2)
                (try clear hk)
                (try clear hi)
                refine hK.out _ _ ⟨((HB.out.cell (World.block_lt_of_cell? w _ hw615_0)).trans hw615_0), ((HB.out.cell (World.block_lt_of_cell? w _ hw615_1)).trans hw615_1), ((HB.out.cell (World.block_lt_of_cell? w _ hw616_0)).trans hw616_0), ((HB.out.cell (World.block_lt_of_cell? w _ hw616_1)).trans hw616_1)⟩ (fun hHeld => ?_)
                clear hK K
                refine norm_ (a' := ?_) ?_ ?_
                rotate_left
                · show Act.put _ (some 25) _ = _
                  simp only [Act.put, List.setIfInBounds_toArray, List.set_cons_zero, List.set_cons_succ, i64_w, i32_w]
                  rfl
                refine pure_ (i := 9) (N := some 26) (v := ?_) (a' := ?_) #[true, true, true, true, true, true, true, true, true, true] rfl rfl (any_of HT_.out (by kernel_rfl)) (fun _ _ _ h => h) (Or.inl ⟨by rfl, ?_⟩) ?_ ?_
                rotate_left
                · intro w'
                  go_simp
                  with_reducible rfl
                rotate_left
                · simp only [Act.put, List.setIfInBounds_toArray, List.set_cons_zero, List.set_cons_succ, i64_w, i32_w]
                  rfl
                refine done_ (done_of HT_.out (by kernel_rfl)) ?_
                try go_wp2
                go_ret
                exact ⟨by first | rfl | (simp [errW_none, errW_some] <;> rfl) | (simp [*, errW_none, errW_some] <;> rfl), by repeat (first | (with_reducible first | exact HB.out | apply below_alloc | apply pw_below_drewN | apply below_drew1) | exact HB.out)⟩
            · rw [if_neg c6] at H
              exact absurd H (by simp)
          · rw [if_neg c5] at H
            exact absurd H (by simp)
        · rw [if_neg c4] at H
          have c4b0 : decide (x5_1 < (l0.length : Int)) = false := decide_eq_false c4
          clear c4
          obtain rfl := Option.some.inj H
          go_wp2
          go_ret
          exact ⟨by first | rfl | (simp [errW_none, errW_some] <;> rfl) | (simp [*, errW_none, errW_some] <;> rfl), by repeat (first | (with_reducible first | exact HB.out | apply below_alloc | apply pw_below_drewN | apply below_drew1) | exact HB.out)⟩
  · rw [if_neg c3] at H
    have c3b0 : ((l0.length : Int) == (l1.length : Int)) = false := beq_eq_false_iff_ne.mpr c3
    have c3b1 : ((l0.length : Int) != (l1.length : Int)) = true := bne_iff_ne.mpr c3
    have c3b2 : (l0.length == l1.length) = false := by first | simpa using c3 | (simp at c3 ⊢; omega)
    obtain rfl := Option.some.inj H
    go_enter Try.func38, Try.ntmps38
    go_wp2
    go_ret
    exact ⟨by first | rfl | (simp [errW_none, errW_some] <;> rfl) | (simp [*, errW_none, errW_some] <;> rfl), by repeat (first | (with_reducible first | exact HB.out | apply below_alloc | apply pw_below_drewN | apply below_drew1) | exact HB.out)⟩
end Go.Proofs.Ytnjmhlhlmokjnaa.G
namespace Go.Proofs.Ytnjmhlhlmokjnaa.G
open Go.RowKit Go.Proofs.YtnjmhlhlmokjnaaW.PrintWords Go.Proofs.YtnjmhlhlmokjnaaW.PrintLast Go.Proofs.YtnjmhlhlmokjnaaW.PrintMore
attribute [local go_sem] max2_int min2_int max_two min_two max_three min_three max_four min_four
set_option linter.unusedVariables false
set_option linter.unusedSimpArgs false
def laws_markActS.l0 : Nat → List (S55) → Int → Int → Option (Int × (List (S55)))
  | 0, _, _, _ => none
  | k + 1, x0, x1, x5 => if x5 < (x0.length : Int) then (if 0 ≤ x5 then ((some (x0.set (x5 : Int).toNat (⟨x1, (rd_T55 x0 x5).f1⟩ : S55) : List (S55))).bind fun y618 => ((laws_markText.f k (wrap64 (x1 + 1))).bind fun t619 => (laws_markActS.l0 k (y618.set (x5 : Int).toNat (⟨(rd_T55 y618 x5).f0, t619⟩ : S55)) (wrap64 ((wrap64 (x1 + 1)) + 1)) (wrap64 (x5 + 1))))) else (none)) else (some (x1, x0))
def laws_markActS.f (k : Nat) (l0 : List (S55)) (a1 : Int) : Option (Int × (List (S55))) := laws_markActS.l0 k l0 a1 0
set_option maxHeartbeats 8000000 in
set_option maxRecDepth 100000 in
theorem laws_markActS.calls (k : Nat) (P0_ : Nat → Prop) (u9000_ : Value) (l0 : List (S55)) (a1 : Int) (r1 : Int) (r2 : List (S55)) (w0 w : World) (hB : Below w0.heap.size w0 w) (ho0 : Kd.R k55 55 w w0.heap.size P0_ u9000_ l0) (h : laws_markActS.f k l0 a1 = some (r1, r2)) :
    Calls Try.prog 39 #[u9000_, .int .i64 a1] w fun e w' => e = .returned (.int .i64 r1) ∧ Kd.R k55 55 w' w0.heap.size (fun k_ => (P0_ k_ ∨ w.heap.size ≤ k_)) u9000_ r2 ∧ Below w0.heap.size w0 w' ∧ Kept w w' (fun k_ => P0_ k_) := by
  have HO0 := Aside0.mk (show Kd.R k55 55 w w0.heap.size (fun k_ => (P0_ k_ ∨ w.heap.size ≤ k_)) u9000_ l0 from Kd.R_mono ho0 (fun k_ hk => (.inl hk)))
  have HK := Aside0.mk (Kept.refl w (fun k_ => P0_ k_))
  have HW0 := Aside0.mk hB.size
  have HB := Aside0.mk hB
  clear hB
  have H : (laws_markActS.l0 k l0 a1 0) = some (r1, r2) := h
  clear h
  have H' := Aside0.mk H
  clear H
  go_enter Try.func39, Try.ntmps39
  go_wp2
  go_loopg [1, 5] k (fun kq v1 v5 w' => ∃ (x0_1 : List (S55)) (x1_1 : Int) (x5_1 : Int), v1 = .int .i64 x1_1 ∧ v5 = .int .i64 x5_1 ∧ Aside0 (laws_markActS.l0 kq x0_1 x1_1 x5_1 = some (r1, r2)) ∧ Aside0 (kq ≤ k) ∧ Aside0 (Kd.R k55 55 w' w0.heap.size (fun k_ => (P0_ k_ ∨ w.heap.size ≤ k_)) u9000_ x0_1) ∧ Aside0 (Kept w w' (fun k_ => P0_ k_)) ∧ Aside0 (Below w0.heap.size w0 w'))
  case atStart => exact ⟨(l0), (a1), (0), (by first | rfl | (simp; done) | (simp [*]; done)), (by first | rfl | (simp; done) | (simp [*]; done)), H', ⟨Nat.le_refl _⟩, ⟨by (with_reducible repeat (first | apply Kd.R_alloc | apply Kd.R_drewN | apply Kd.R_drew)); exact HO0.out⟩, ⟨by repeat (first | (with_reducible first | exact HK.out | apply Kept.alloc | apply Kept.drewN | apply Kept.drew) | exact HK.out)⟩, ⟨by repeat (first | (with_reducible first | exact HB.out | apply below_alloc | apply pw_below_drewN | apply below_drew1) | exact HB.out)⟩⟩
  case round =>
    clear H'
    try clear p2
    obtain ⟨x0_1, x1_1, x5_1, rfl, rfl, HA, HK1, HO_0, HK, HB⟩ := hrel
    cases gk with
    | zero => exact absurd HA.out (by simp [laws_markActS.l0])
    | succ k1 =>
      have H := HA.out
      clear HA
      simp only [laws_markActS.l0] at H
      by_cases c3 : x5_1 < (x0_1.length : Int)
      · rw [if_pos c3] at H
        have c3b0 : decide (x5_1 < (x0_1.length : Int)) = true := decide_eq_true c3
        clear c3
        by_cases c4 : 0 ≤ x5_1
        · rw [if_pos c4] at H
          have c4b0 : decide (0 ≤ x5_1) = true := decide_eq_true c4
          clear c4
          obtain ⟨y618, hy618⟩ : ∃ y_ : List (S55), y_ = (x0_1.set (x5_1 : Int).toNat (⟨x1_1, (rd_T55 x0_1 x5_1).f1⟩ : S55)) := ⟨_, rfl⟩
          replace H : ((laws_markText.f k1 (wrap64 (x1_1 + 1))).bind fun t619 => (laws_markActS.l0 k1 (y618.set (x5_1 : Int).toNat (⟨(rd_T55 y618 x5_1).f0, t619⟩ : S55)) (wrap64 ((wrap64 (x1_1 + 1)) + 1)) (wrap64 (x5_1 + 1)))) = some (r1, r2) := by first | (rw [hy618]; with_reducible exact H) | (have H2_ := (Option.bind_some _ _).symm.trans H; rw [hy618]; with_reducible exact H2_) | (have H2_ := (Option.bind_some _ _).symm.trans H; with_reducible exact H2_) | with_reducible exact H | (rw [hy618]; exact H) | exact H
          have Ny618 := Aside0.mk hy618
          clear hy618
          replace H := Option.bind_eq_some_iff.mp H
          obtain ⟨t619, A60, H⟩ := H
          replace H : (laws_markActS.l0 k1 (y618.set (x5_1 : Int).toNat (⟨(rd_T55 y618 x5_1).f0, t619⟩ : S55)) (wrap64 ((wrap64 (x1_1 + 1)) + 1)) (wrap64 (x5_1 + 1))) = some (r1, r2) := H
          have A6 := Aside0.mk A60
          clear A60
          obtain ⟨y620, hy620⟩ : ∃ y_ : List (S55), y_ = (y618.set (x5_1 : Int).toNat (⟨(rd_T55 y618 x5_1).f0, t619⟩ : S55)) := ⟨_, rfl⟩
          replace H : (laws_markActS.l0 k1 y620 (wrap64 ((wrap64 (x1_1 + 1)) + 1)) (wrap64 (x5_1 + 1))) = some (r1, r2) := by first | (rw [hy620]; with_reducible exact H) | (have H2_ := (Option.bind_some _ _).symm.trans H; rw [hy620]; with_reducible exact H2_) | (have H2_ := (Option.bind_some _ _).symm.trans H; with_reducible exact H2_) | with_reducible exact H | (rw [hy620]; exact H) | exact H
          have Ny620 := Aside0.mk hy620
          clear hy620
          have H' := Aside0.mk H
          clear H
          obtain ⟨Ao8, co8, eo8⟩ := Kd.R_slice HO_0.out
          subst eo8
          have p5 : 0 ≤ (x5_1 : Int) := of_decide_eq_true (by first | (with_reducible assumption) | assumption)
          have q5 : (x5_1 : Int) < ((x0_1.length : Int) : Int) := of_decide_eq_true (by first | (with_reducible assumption) | assumption)
          obtain ⟨go5, co5, eo5, gb5, gl5, cl5, HG5⟩ := Kd.R_form HO_0.out (by omega)
          (first | cases eo5 | (injection eo5 with ea_ en_ ec_; (first | subst ea_ | (injection ea_ with ea_; subst ea_)); subst ec_; clear en_))
          have GB5 := Aside0.mk gb5
          have GG5 := Aside0.mk HG5
          clear gb5 gl5 HG5
          have HMgo5 := Aside0.mk (show (P0_ go5 ∨ w.heap.size ≤ go5) from (HO_0.out.1 _ rfl))
          obtain ⟨ce5, hcl5, hM5, hcc5, hfr5⟩ := Kd.R_elem HO_0.out z55 (x5_1 : Int) p5 q5
          obtain rfl := k55_openM hM5
          have hx5_0 : wr.cell? ⟨go5, (x5_1 : Int).toNat * 2, none⟩ = some (.int .i64 ((rd_T55 x0_1 x5_1).f0)) := hcc5 0 _ rfl
          have hx5_1 : wr.cell? ⟨go5, (x5_1 : Int).toNat * 2 + 1, none⟩ = some (.string ((rd_T55 x0_1 x5_1).f1)) := hcc5 1 _ rfl
          have hf5_0 : wr.frozen? ⟨go5, (x5_1 : Int).toNat * 2, none⟩ = false := hfr5 0
          have hf5_1 : wr.frozen? ⟨go5, (x5_1 : Int).toNat * 2 + 1, none⟩ = false := hfr5 1
          clear hcl5 hcc5 hfr5 hM5
          replace p5 := eq_true p5
          replace q5 := eq_true q5
          have HX9 := Aside0.mk (show Kd.R k55 55 wr w0.heap.size (fun k_ => (P0_ k_ ∨ w.heap.size ≤ k_)) (.slice (some ⟨go5, 0, none⟩) x0_1.length co8) x0_1 from (by (with_reducible repeat (first | apply Kd.R_alloc | apply Kd.R_drewN | apply Kd.R_drew)); exact HO_0.out))
          obtain ⟨ce9, hcl9, hM9, hcc9, hfr9⟩ := Kd.R_elem HX9.out z55 (x5_1 : Int) (of_decide_eq_true (by first | (with_reducible assumption) | assumption)) (by have h_ : (x5_1 : Int) < ((x0_1.length : Int) : Int) := of_decide_eq_true (by first | (with_reducible assumption) | assumption); first | exact h_ | (have e_ := (Kd.R_reads' HO_0.out).1; omega) | simpa using h_)
          obtain rfl := k55_openM hM9
          have HP9 := Kd.R_seg HX9.out (x5_1 : Int) (of_decide_eq_true (by first | (with_reducible assumption) | assumption)) (by have h_ : (x5_1 : Int) < ((x0_1.length : Int) : Int) := of_decide_eq_true (by first | (with_reducible assumption) | assumption); first | exact h_ | (have e_ := (Kd.R_reads' HO_0.out).1; omega) | simpa using h_) (seg := [.int .i64 x1_1]) (j := 0) hcl9 hcc9 (show 1 ≤ 2 from by decide) (x' := (⟨x1_1, (rd_T55 x0_1 x5_1).f1⟩ : S55)) (k55_mkM _ _ _ (⟨x1_1, (rd_T55 x0_1 x5_1).f1⟩ : S55) ) (fun _ hk => hk)
          have hx9_0 := hcc9 0 _ rfl
          (try simp only [show (k55).sz = 2 from rfl, Nat.mul_one, Nat.add_zero] at hx9_0)
          have hf9_0 := hfr9 0
          (try simp only [show (k55).sz = 2 from rfl, Nat.mul_one, Nat.add_zero] at hf9_0)
          clear hcl9 hcc9 hfr9 hM9
          go_wp2_with (first | ((with_reducible refine gate_store (t := 2) (p := 16) rfl ?_); refine store_event (t := 2) (p := 16) (v := ?vo_w10) (w1 := (wr.setCell ⟨go5, (x5_1 : Int).toNat * 2, none⟩ (.int .i64 x1_1))) ?hg ?ho ?hn ?hr ?_; (case ho => rfl); (case hg => rfl); (case hn => rfl); (case hr => first | (go_simp; done) | (go_simp; rfl)); intro w10 hw; have hg : wr.grownBy w10 (some go5) := (by rw [hw]; exact HP9.2); have hp_ : Kd.R k55 55 w10 w0.heap.size (fun k_ => (P0_ k_ ∨ w.heap.size ≤ k_)) (.slice (some ⟨go5, 0, none⟩) x0_1.length co8) y618 := (by rw [hw, Ny618.out]; exact HP9.1); clear HP9; have n0_ := Aside0.mk (hp_); have n1_ := Aside0.mk ((by rw [hw]; exact below_set (HB.out) GB5.out : Below w0.heap.size w0 w10)); have n2_ := Aside0.mk (Kept.of_grown (S := (fun k_ => P0_ k_)) hg (by repeat (first | (with_reducible first | exact HK.out | apply Kept.alloc | apply Kept.drewN | apply Kept.drew) | exact HK.out)) (fun k_ e_ => (HO_0.out.1 k_ e_))); clear HO_0; clear HB; clear HK; have HO_0 := n0_; have HB := n1_; have HK := n2_; clear n0_ n1_ n2_; clear hg hw hp_) | ((with_reducible refine gate_callee (f := 57) rfl ?_); refine goesL_ (some 22) rfl rfl Try.func57 (by kernel_rfl) rfl #[.int .i64 (wrap64 (x1_1 + 1))] rfl (by (try simp only [List.map_toArray, List.map_cons, List.map_nil]); first | done | rfl | (simp only [List.length_drop, List.length_take]; rfl)) ?_; (with_reducible refine (laws_markText.calls k1 (wrap64 (x1_1 + 1)) t619 _ A6.out).mono ?_); rintro e w11 ⟨rfl, hb⟩; refine ⟨_, rfl, ?_⟩; have n0_ := Aside0.mk (Kd.R_below (by (with_reducible repeat (first | apply Kd.R_alloc | apply Kd.R_drewN | apply Kd.R_drew)); exact HO_0.out) hb); have n1_ := Aside0.mk (Kept.below (S := (fun k_ => P0_ k_)) (by repeat (first | (with_reducible first | exact HK.out | apply Kept.alloc | apply Kept.drewN | apply Kept.drew) | exact HK.out)) hb); have n2_ := Aside0.mk (below_step (by repeat (first | (with_reducible first | exact HB.out | apply below_alloc | apply pw_below_drewN | apply below_drew1) | exact HB.out)) hb); clear HO_0; clear HK; clear HB; have HO_0 := n0_; have HK := n1_; have HB := n2_; clear n0_ n1_ n2_; (try clear hb); (try clear hb2); (try clear hk); (try clear hi); have p7 : 0 ≤ (x5_1 : Int) := of_decide_eq_true (by first | (with_reducible assumption) | assumption); have q7 : (x5_1 : Int) < ((x0_1.length : Int) : Int) := of_decide_eq_true (by first | (with_reducible assumption) | assumption); obtain ⟨ce7, hcl7, hM7, hcc7, hfr7⟩ := Kd.R_elem HO_0.out z55 (x5_1 : Int) p7 q7; obtain rfl := k55_openM hM7; have hx7_0 : w11.cell? ⟨go5, (x5_1 : Int).toNat * 2, none⟩ = some (.int .i64 ((rd_T55 y618 x5_1).f0)) := hcc7 0 _ rfl; have hx7_1 : w11.cell? ⟨go5, (x5_1 : Int).toNat * 2 + 1, none⟩ = some (.string ((rd_T55 y618 x5_1).f1)) := hcc7 1 _ rfl; have hf7_0 : w11.frozen? ⟨go5, (x5_1 : Int).toNat * 2, none⟩ = false := hfr7 0; have hf7_1 : w11.frozen? ⟨go5, (x5_1 : Int).toNat * 2 + 1, none⟩ = false := hfr7 1; clear hcl7 hcc7 hfr7 hM7; replace p7 := eq_true p7; replace q7 := eq_true q7; have HX12 := Aside0.mk (show Kd.R k55 55 w11 w0.heap.size (fun k_ => (P0_ k_ ∨ w.heap.size ≤ k_)) (.slice (some ⟨go5, 0, none⟩) x0_1.length co8) y618 from (by (with_reducible repeat (first | apply Kd.R_alloc | apply Kd.R_drewN | apply Kd.R_drew)); exact HO_0.out)); obtain ⟨ce12, hcl12, hM12, hcc12, hfr12⟩ := Kd.R_elem HX12.out z55 (x5_1 : Int) (of_decide_eq_true (by first | (with_reducible assumption) | assumption)) (by have h_ : (x5_1 : Int) < ((x0_1.length : Int) : Int) := of_decide_eq_true (by first | (with_reducible assumption) | assumption); first | exact h_ | (have e_ := (Kd.R_reads' HO_0.out).1; omega) | simpa using h_); obtain rfl := k55_openM hM12; have HP12 := Kd.R_seg HX12.out (x5_1 : Int) (of_decide_eq_true (by first | (with_reducible assumption) | assumption)) (by have h_ : (x5_1 : Int) < ((x0_1.length : Int) : Int) := of_decide_eq_true (by first | (with_reducible assumption) | assumption); first | exact h_ | (have e_ := (Kd.R_reads' HO_0.out).1; omega) | simpa using h_) (seg := [.string t619]) (j := 1) hcl12 hcc12 (show 2 ≤ 2 from by decide) (x' := (⟨(rd_T55 y618 x5_1).f0, t619⟩ : S55)) (k55_mkM _ _ _ (⟨(rd_T55 y618 x5_1).f0, t619⟩ : S55) ) (fun _ hk => hk); have hx12_1 := hcc12 1 _ rfl; (try simp only [show (k55).sz = 2 from rfl, Nat.mul_one, Nat.add_zero] at hx12_1); have hf12_1 := hfr12 1; (try simp only [show (k55).sz = 2 from rfl, Nat.mul_one, Nat.add_zero] at hf12_1); clear hcl12 hcc12 hfr12 hM12) | ((with_reducible refine gate_store (t := 9) (p := 24) rfl ?_); refine store_event (t := 9) (p := 24) (v := ?vo_w13) (w1 := (w11.setCell ⟨go5, (x5_1 : Int).toNat * 2 + 1, none⟩ (.string t619))) ?hg ?ho ?hn ?hr ?_; (case ho => rfl); (case hg => rfl); (case hn => rfl); (case hr => first | (go_simp; done) | (go_simp; rfl)); intro w13 hw; have hg : w11.grownBy w13 (some go5) := (by rw [hw]; exact HP12.2); have hp_ : Kd.R k55 55 w13 w0.heap.size (fun k_ => (P0_ k_ ∨ w.heap.size ≤ k_)) (.slice (some ⟨go5, 0, none⟩) x0_1.length co8) y620 := (by rw [hw, Ny620.out]; exact HP12.1); clear HP12; have n0_ := Aside0.mk (hp_); have n1_ := Aside0.mk ((by rw [hw]; exact below_set (HB.out) GB5.out : Below w0.heap.size w0 w13)); have n2_ := Aside0.mk (Kept.of_grown (S := (fun k_ => P0_ k_)) hg (by repeat (first | (with_reducible first | exact HK.out | apply Kept.alloc | apply Kept.drewN | apply Kept.drew) | exact HK.out)) (fun k_ e_ => (HO_0.out.1 k_ e_))); clear HO_0; clear HB; clear HK; have HO_0 := n0_; have HB := n1_; have HK := n2_; clear n0_ n1_ n2_; clear hg hw hp_))
          go_roundg k1
          case measure => have := HK1.out; omega
          case rel => exact ⟨(y620), (wrap64 ((wrap64 (x1_1 + 1)) + 1)), (wrap64 (x5_1 + 1)), (by first | rfl | (simp; done) | (simp [*]; done)), (by first | rfl | (simp; done) | (simp [*]; done)), H', ⟨by have := HK1.out; omega⟩, ⟨by (with_reducible repeat (first | apply Kd.R_alloc | apply Kd.R_drewN | apply Kd.R_drew)); exact HO_0.out⟩, ⟨by repeat (first | (with_reducible first | exact HK.out | apply Kept.alloc | apply Kept.drewN | apply Kept.drew) | exact HK.out)⟩, ⟨by repeat (first | (with_reducible first | exact HB.out | apply below_alloc | apply pw_below_drewN | apply below_drew1) | exact HB.out)⟩⟩
        · rw [if_neg c4] at H
          exact absurd H (by simp)
      · rw [if_neg c3] at H
        have c3b0 : decide (x5_1 < (x0_1.length : Int)) = false := decide_eq_false c3
        clear c3
        simp only [Option.some.injEq, Prod.mk.injEq] at H
        obtain ⟨rfl, rfl⟩ := H
        obtain ⟨Ao14, co14, eo14⟩ := Kd.R_slice HO_0.out
        subst eo14
        go_wp2
        go_ret
        exact ⟨by first | rfl | (simp [errW_none, errW_some] <;> rfl) | (simp [*, errW_none, errW_some] <;> rfl), by (with_reducible repeat (first | apply Kd.R_alloc | apply Kd.R_drewN | apply Kd.R_drew)); exact HO_0.out, by repeat (first | (with_reducible first | exact HB.out | apply below_alloc | apply pw_below_drewN | apply below_drew1) | exact HB.out), by repeat (first | (with_reducible first | exact HK.out | apply Kept.alloc | apply Kept.drewN | apply Kept.drew) | exact HK.out)⟩
end Go.Proofs.Ytnjmhlhlmokjnaa.G
namespace Go.Proofs.Ytnjmhlhlmokjnaa.G
open Go.RowKit Go.Proofs.YtnjmhlhlmokjnaaW.PrintWords Go.Proofs.YtnjmhlhlmokjnaaW.PrintLast Go.Proofs.YtnjmhlhlmokjnaaW.PrintMore
attribute [local go_sem] max2_int min2_int max_two min_two max_three min_three max_four min_four
set_option linter.unusedVariables false
set_option linter.unusedSimpArgs false
def laws_heldActS.l0 : Nat → List (S55) → Int → Int → Option (Int)
  | 0, _, _, _ => none
  | k + 1, x0, x1, x5 => if x5 < (x0.length : Int) then (if 0 ≤ x5 then (if ((rd_T55 x0 x5).f0) = x1 then ((laws_markText.f k (wrap64 (x1 + 1))).bind fun t623 => (if ((rd_T55 x0 x5).f1).toList = t623.toList then (laws_heldActS.l0 k x0 (wrap64 ((wrap64 (x1 + 1)) + 1)) (wrap64 (x5 + 1))) else (some (-1)))) else (some (-1))) else (none)) else (some x1)
def laws_heldActS.f (k : Nat) (l0 : List (S55)) (a1 : Int) : Option (Int) := laws_heldActS.l0 k l0 a1 0
def laws_heldActS.T7 : Bool × List (List Nat × List Nat) := (true, [([], []), ([], []), ([0, 1], [0, 1]), ([2], [2]), ([3], [3]), ([], []), ([5], [5]), ([4, 6], [4, 6])])
def laws_heldActS.B7 : List Nat := [0, 0, 3, 7, 15, 0, 32, 127]
theorem laws_heldActS.tab7 : rtab .any (opsOf Try.f40 7) = laws_heldActS.T7 := by kernel_rfl
theorem laws_heldActS.bits7 : waitsOk laws_heldActS.T7.2 laws_heldActS.B7 = true := by kernel_rfl
set_option maxHeartbeats 8000000 in
set_option maxRecDepth 100000 in
theorem laws_heldActS.calls (k : Nat) (A0 : Option Addr) (c0 : Nat) (l0 : List (S55)) (a1 : Int) (r : Int) (w : World) (hr0 : Kd.C k55 w A0 l0.length l0) (hc0 : l0.length ≤ c0) (h : laws_heldActS.f k l0 a1 = some r) :
    Calls Try.prog 40 #[.slice A0 l0.length c0, .int .i64 a1] w fun e w' => e = .returned (.int .i64 r) ∧ Below w.heap.size w w' := by
  have HR0 := Aside0.mk hr0
  have HC0 := Aside0.mk hc0
  clear hr0 hc0
  have HB := Aside0.mk (Below.refl w.heap.size w)
  have H : (laws_heldActS.l0 k l0 a1 0) = some r := h
  clear h
  have H' := Aside0.mk H
  clear H
  go_enter Try.func40, Try.ntmps40
  go_wp2
  go_loopg [1, 5] k (fun kq v1 v5 w' => ∃ (x1_1 : Int) (x5_1 : Int), v1 = .int .i64 x1_1 ∧ v5 = .int .i64 x5_1 ∧ Aside0 (laws_heldActS.l0 kq l0 x1_1 x5_1 = some r) ∧ Aside0 (kq ≤ k) ∧ Aside0 (Below w.heap.size w w'))
  case atStart => exact ⟨(a1), (0), (by first | rfl | (simp; done) | (simp [*]; done)), (by first | rfl | (simp; done) | (simp [*]; done)), H', ⟨Nat.le_refl _⟩, ⟨by repeat (first | (with_reducible first | exact HB.out | apply below_alloc | apply pw_below_drewN | apply below_drew1) | exact HB.out)⟩⟩
  case round =>
    clear H'
    try clear p2
    obtain ⟨x1_1, x5_1, rfl, rfl, HA, HK1, HB⟩ := hrel
    cases gk with
    | zero => exact absurd HA.out (by simp [laws_heldActS.l0])
    | succ k1 =>
      have H := HA.out
      clear HA
      simp only [laws_heldActS.l0] at H
      by_cases c3 : x5_1 < (l0.length : Int)
      · rw [if_pos c3] at H
        have c3b0 : decide (x5_1 < (l0.length : Int)) = true := decide_eq_true c3
        clear c3
        by_cases c4 : 0 ≤ x5_1
        · rw [if_pos c4] at H
          have c4b0 : decide (0 ≤ x5_1) = true := decide_eq_true c4
          clear c4
          by_cases c5 : ((rd_T55 l0 x5_1).f0) = x1_1
          · rw [if_pos c5] at H
            have c5b0 : (((rd_T55 l0 x5_1).f0) == x1_1) = true := beq_iff_eq.mpr c5
            have c5b1 : (((rd_T55 l0 x5_1).f0) != x1_1) = false := bne_eq_false_iff_eq.mpr c5
            clear c5
            replace H := Option.bind_eq_some_iff.mp H
            obtain ⟨t623, A60, H⟩ := H
            replace H : (if ((rd_T55 l0 x5_1).f1).toList = t623.toList then (laws_heldActS.l0 k1 l0 (wrap64 ((wrap64 (x1_1 + 1)) + 1)) (wrap64 (x5_1 + 1))) else (some (-1))) = some r := H
            have A6 := Aside0.mk A60
            clear A60
            by_cases c7 : ((rd_T55 l0 x5_1).f1).toList = t623.toList
            · rw [if_pos c7] at H
              have c7b0 : (((rd_T55 l0 x5_1).f1).toList == t623.toList) = true := beq_iff_eq.mpr c7
              have c7b1 : (((rd_T55 l0 x5_1).f1).toList != t623.toList) = false := bne_eq_false_iff_eq.mpr c7
              clear c7
              have H' := Aside0.mk H
              clear H
              have p621 : 0 ≤ (x5_1 : Int) := of_decide_eq_true (by first | (with_reducible assumption) | assumption)
              have q621 : x5_1 < (l0.length : Int) := of_decide_eq_true (by first | (with_reducible assumption) | assumption)
              obtain ⟨ad621, e621, hx621_0, hx621_1⟩ := at_T55 HR0.out x5_1 p621 q621
              cases e621
              replace hx621_0 := (HB.out.cell (World.block_lt_of_cell? w _ hx621_0)).trans hx621_0
              replace hx621_1 := (HB.out.cell (World.block_lt_of_cell? w _ hx621_1)).trans hx621_1
              replace p621 := eq_true p621
              replace q621 := eq_true q621
              try go_wp2
              have n0_ := Aside0.mk (below_drew1 HB.out)
              clear HB
              have HB := n0_
              clear n0_
              have p622 : 0 ≤ (x5_1 : Int) := of_decide_eq_true (by first | (with_reducible assumption) | assumption)
              have q622 : x5_1 < (l0.length : Int) := of_decide_eq_true (by first | (with_reducible assumption) | assumption)
              obtain ⟨ad622, e622, hx622_0, hx622_1⟩ := at_T55 HR0.out x5_1 p622 q622
              have hw622_1 := hx622_1
              have hw622_0 := hx622_0
              obtain rfl : ad621 = ad622 := (by injection e622)
              replace hx622_0 := (HB.out.cell (World.block_lt_of_cell? w _ hx622_0)).trans hx622_0
              replace hx622_1 := (HB.out.cell (World.block_lt_of_cell? w _ hx622_1)).trans hx622_1
              replace p622 := eq_true p622
              replace q622 := eq_true q622
              refine start_ (n := 8) (S := fun w' => w'.cell? (ad621.add ((x5_1).toNat * 2)) = some (.int .i64 ((rd_T55 l0 x5_1).f0)) ∧ w'.cell? ⟨(ad621.add ((x5_1).toNat * 2)).block, (ad621.add ((x5_1).toNat * 2)).off + 1, none⟩ = some (.string ((rd_T55 l0 x5_1).f1))) (ds := []) #[false, false, false, false, false, false, false, false] (by kernel_rfl) rfl rfl ⟨((HB.out.cell (World.block_lt_of_cell? w _ hw622_0)).trans hw622_0), ((HB.out.cell (World.block_lt_of_cell? w _ hw622_1)).trans hw622_1)⟩ (fun hHeld => ?_); refine with_tabW laws_heldActS.tab7 laws_heldActS.bits7 (fun HT_ HW_ => ?_)
              generalize wr.drew = w8 at HB hx622_0 hx622_1 hHeld ⊢
              refine pure_ (i := 0) (N := some 21) (v := ?_) (a' := ?_) #[true, false, false, false, false, false, false, false] rfl rfl (any_of HT_.out (by kernel_rfl)) (fun _ _ _ h => h) (Or.inl ⟨by rfl, ?_⟩) ?_ ?_
              rotate_left
              · intro w'
                go_simp
                with_reducible rfl
              rotate_left
              · simp only [Act.put, List.setIfInBounds_toArray, List.set_cons_zero, List.set_cons_succ, i64_w, i32_w]
                rfl
              refine pure_ (i := 1) (N := some 22) (v := ?_) (a' := ?_) #[true, true, false, false, false, false, false, false] rfl rfl (any_of HT_.out (by kernel_rfl)) (fun _ _ _ h => h) (Or.inl ⟨by rfl, ?_⟩) ?_ ?_
              rotate_left
              · intro w'
                go_simp
                with_reducible rfl
              rotate_left
              · simp only [Act.put, List.setIfInBounds_toArray, List.set_cons_zero, List.set_cons_succ, i64_w, i32_w]
                rfl
              refine pure_ (i := 2) (N := some 23) (v := ?_) (a' := ?_) #[true, true, true, false, false, false, false, false] rfl rfl (any_of HT_.out (by kernel_rfl)) (fun _ _ _ h => h) (Or.inl ⟨by rfl, ?_⟩) ?_ ?_
              rotate_left
              · intro w'
                go_simp
                with_reducible rfl
              rotate_left
              · simp only [Act.put, List.setIfInBounds_toArray, List.set_cons_zero, List.set_cons_succ, i64_w, i32_w]
                rfl
              refine pure_ (i := 3) (N := some 24) (v := ?_) (a' := ?_) #[true, true, true, true, false, false, false, false] rfl rfl (any_of HT_.out (by kernel_rfl)) (fun _ _ _ h => h) (Or.inl ⟨by rfl, ?_⟩) ?_ ?_
              rotate_left
              · intro w'
                go_simp
                with_reducible rfl
              rotate_left
              · simp only [Act.put, List.setIfInBounds_toArray, List.set_cons_zero, List.set_cons_succ, i64_w, i32_w]
                rfl
              refine pure_ (i := 5) (N := some 26) (v := ?_) (a' := ?_) #[true, true, true, true, false, true, false, false] rfl rfl (any_of HT_.out (by kernel_rfl)) (fun _ _ _ h => h) (Or.inl ⟨by rfl, ?_⟩) ?_ ?_
              rotate_left
              · intro w'
                go_simp
                with_reducible rfl
              rotate_left
              · simp only [Act.put, List.setIfInBounds_toArray, List.set_cons_zero, List.set_cons_succ, i64_w, i32_w]
                rfl
              refine take_ (i := 4) (N := some 25) (v := ?_) (a' := ?_) #[true, true, true, true, true, true, false, false] rfl rfl (take_ofW HT_.out HW_.out (by kernel_rfl)) (fun _ _ _ h => h) (Or.inl ⟨by rfl, ?_⟩) hHeld ?_ ?_
              rotate_left
              · rintro w' ⟨s0, s1⟩
                go_simp
                with_reducible rfl
              rotate_left
              · simp only [Act.put, List.setIfInBounds_toArray, List.set_cons_zero, List.set_cons_succ, i64_w, i32_w]
                rfl
              refine one_ (i := 6) (N := some 27) #[true, true, true, true, true, true, true, false] rfl rfl (one_of HT_.out (by kernel_rfl)) (by decide) (fun K hK => ?_)
              refine goes_ Try.func57 (by kernel_rfl) rfl #[.int .i64 (wrap64 (x1_1 + 1))] (by rfl) rfl rfl (by (try simp only [List.map_toArray, List.map_cons, List.map_nil]); first | done | rfl | (simp only [List.length_drop, List.length_take]; rfl)) ?_
              with_reducible refine (laws_markText.calls k1 (wrap64 (x1_1 + 1)) t623 _ A6.out).mono ?_
              rintro e w9 ⟨rfl, hb⟩
              refine ⟨_, rfl, ?_⟩
              have n0_ := Aside0.mk (below_step (by repeat (first | (with_reducible first | exact HB.out | apply below_alloc | apply pw_below_drewN | apply below_drew1) | exact HB.out)) hb)
              clear HB
              have HB := n0_
              clear n0_
              (try clear hb)
              (try clear hb2)
              (try clear hk)
              (try clear hi)
              refine hK.out _ _ ⟨((HB.out.cell (World.block_lt_of_cell? w _ hw622_0)).trans hw622_0), ((HB.out.cell (World.block_lt_of_cell? w _ hw622_1)).trans hw622_1)⟩ (fun hHeld => ?_)
              clear hK K
              refine norm_ (a' := ?_) ?_ ?_
              rotate_left
              · show Act.put _ (some 27) _ = _
                simp only [Act.put, List.setIfInBounds_toArray, List.set_cons_zero, List.set_cons_succ, i64_w, i32_w]
                rfl
              refine pure_ (i := 7) (N := some 28) (v := ?_) (a' := ?_) #[true, true, true, true, true, true, true, true] rfl rfl (any_of HT_.out (by kernel_rfl)) (fun _ _ _ h => h) (Or.inl ⟨by rfl, ?_⟩) ?_ ?_
              rotate_left
              · intro w'
                go_simp
                with_reducible rfl
              rotate_left
              · simp only [Act.put, List.setIfInBounds_toArray, List.set_cons_zero, List.set_cons_succ, i64_w, i32_w]
                rfl
              refine done_ (done_of HT_.out (by kernel_rfl)) ?_
              try go_wp2
              go_roundg k1
              case measure => have := HK1.out; omega
              case rel => exact ⟨(wrap64 ((wrap64 (x1_1 + 1)) + 1)), (wrap64 (x5_1 + 1)), (by first | rfl | (simp; done) | (simp [*]; done)), (by first | rfl | (simp; done) | (simp [*]; done)), H', ⟨by have := HK1.out; omega⟩, ⟨by repeat (first | (with_reducible first | exact HB.out | apply below_alloc | apply pw_below_drewN | apply below_drew1) | exact HB.out)⟩⟩
            · rw [if_neg c7] at H
              have c7b0 : (((rd_T55 l0 x5_1).f1).toList == t623.toList) = false := beq_eq_false_iff_ne.mpr c7
              have c7b1 : (((rd_T55 l0 x5_1).f1).toList != t623.toList) = true := bne_iff_ne.mpr c7
              obtain rfl := Option.some.inj H
              have p621 : 0 ≤ (x5_1 : Int) := of_decide_eq_true (by first | (with_reducible assumption) | assumption)
              have q621 : x5_1 < (l0.length : Int) := of_decide_eq_true (by first | (with_reducible assumption) | assumption)
              obtain ⟨ad621, e621, hx621_0, hx621_1⟩ := at_T55 HR0.out x5_1 p621 q621
              cases e621
              replace hx621_0 := (HB.out.cell (World.block_lt_of_cell? w _ hx621_0)).trans hx621_0
              replace hx621_1 := (HB.out.cell (World.block_lt_of_cell? w _ hx621_1)).trans hx621_1
              replace p621 := eq_true p621
              replace q621 := eq_true q621
              try go_wp2
              have n0_ := Aside0.mk (below_drew1 HB.out)
              clear HB
              have HB := n0_
              clear n0_
              have p622 : 0 ≤ (x5_1 : Int) := of_decide_eq_true (by first | (with_reducible assumption) | assumption)
              have q622 : x5_1 < (l0.length : Int) := of_decide_eq_true (by first | (with_reducible assumption) | assumption)
              obtain ⟨ad622, e622, hx622_0, hx622_1⟩ := at_T55 HR0.out x5_1 p622 q622
              have hw622_1 := hx622_1
              have hw622_0 := hx622_0
              obtain rfl : ad621 = ad622 := (by injection e622)
              replace hx622_0 := (HB.out.cell (World.block_lt_of_cell? w _ hx622_0)).trans hx622_0
              replace hx622_1 := (HB.out.cell (World.block_lt_of_cell? w _ hx622_1)).trans hx622_1
              replace p622 := eq_true p622
              replace q622 := eq_true q622
              refine start_ (n := 8) (S := fun w' => w'.cell? (ad621.add ((x5_1).toNat * 2)) = some (.int .i64 ((rd_T55 l0 x5_1).f0)) ∧ w'.cell? ⟨(ad621.add ((x5_1).toNat * 2)).block, (ad621.add ((x5_1).toNat * 2)).off + 1, none⟩ = some (.string ((rd_T55 l0 x5_1).f1))) (ds := []) #[false, false, false, false, false, false, false, false] (by kernel_rfl) rfl rfl ⟨((HB.out.cell (World.block_lt_of_cell? w _ hw622_0)).trans hw622_0), ((HB.out.cell (World.block_lt_of_cell? w _ hw622_1)).trans hw622_1)⟩ (fun hHeld => ?_); refine with_tabW laws_heldActS.tab7 laws_heldActS.bits7 (fun HT_ HW_ => ?_)
              generalize wr.drew = w10 at HB hx622_0 hx622_1 hHeld ⊢
              refine pure_ (i := 0) (N := some 21) (v := ?_) (a' := ?_) #[true, false, false, false, false, false, false, false] rfl rfl (any_of HT_.out (by kernel_rfl)) (fun _ _ _ h => h) (Or.inl ⟨by rfl, ?_⟩) ?_ ?_
              rotate_left
              · intro w'
                go_simp
                with_reducible rfl
              rotate_left
              · simp only [Act.put, List.setIfInBounds_toArray, List.set_cons_zero, List.set_cons_succ, i64_w, i32_w]
                rfl
              refine pure_ (i := 1) (N := some 22) (v := ?_) (a' := ?_) #[true, true, false, false, false, false, false, false] rfl rfl (any_of HT_.out (by kernel_rfl)) (fun _ _ _ h => h) (Or.inl ⟨by rfl, ?_⟩) ?_ ?_
              rotate_left
              · intro w'
                go_simp
                with_reducible rfl
              rotate_left
              · simp only [Act.put, List.setIfInBounds_toArray, List.set_cons_zero, List.set_cons_succ, i64_w, i32_w]
                rfl
              refine pure_ (i := 2) (N := some 23) (v := ?_) (a' := ?_) #[true, true, true, false, false, false, false, false] rfl rfl (any_of HT_.out (by kernel_rfl)) (fun _ _ _ h => h) (Or.inl ⟨by rfl, ?_⟩) ?_ ?_
              rotate_left
              · intro w'
                go_simp
                with_reducible rfl
              rotate_left
              · simp only [Act.put, List.setIfInBounds_toArray, List.set_cons_zero, List.set_cons_succ, i64_w, i32_w]
                rfl
              refine pure_ (i := 3) (N := some 24) (v := ?_) (a' := ?_) #[true, true, true, true, false, false, false, false] rfl rfl (any_of HT_.out (by kernel_rfl)) (fun _ _ _ h => h) (Or.inl ⟨by rfl, ?_⟩) ?_ ?_
              rotate_left
              · intro w'
                go_simp
                with_reducible rfl
              rotate_left
              · simp only [Act.put, List.setIfInBounds_toArray, List.set_cons_zero, List.set_cons_succ, i64_w, i32_w]
                rfl
              refine pure_ (i := 5) (N := some 26) (v := ?_) (a' := ?_) #[true, true, true, true, false, true, false, false] rfl rfl (any_of HT_.out (by kernel_rfl)) (fun _ _ _ h => h) (Or.inl ⟨by rfl, ?_⟩) ?_ ?_
              rotate_left
              · intro w'
                go_simp
                with_reducible rfl
              rotate_left
              · simp only [Act.put, List.setIfInBounds_toArray, List.set_cons_zero, List.set_cons_succ, i64_w, i32_w]
                rfl
              refine take_ (i := 4) (N := some 25) (v := ?_) (a' := ?_) #[true, true, true, true, true, true, false, false] rfl rfl (take_ofW HT_.out HW_.out (by kernel_rfl)) (fun _ _ _ h => h) (Or.inl ⟨by rfl, ?_⟩) hHeld ?_ ?_
              rotate_left
              · rintro w' ⟨s0, s1⟩
                go_simp
                with_reducible rfl
              rotate_left
              · simp only [Act.put, List.setIfInBounds_toArray, List.set_cons_zero, List.set_cons_succ, i64_w, i32_w]
                rfl
              refine one_ (i := 6) (N := some 27) #[true, true, true, true, true, true, true, false] rfl rfl (one_of HT_.out (by kernel_rfl)) (by decide) (fun K hK => ?_)
              refine goes_ Try.func57 (by kernel_rfl) rfl #[.int .i64 (wrap64 (x1_1 + 1))] (by rfl) rfl rfl (by (try simp only [List.map_toArray, List.map_cons, List.map_nil]); first | done | rfl | (simp only [List.length_drop, List.length_take]; rfl)) ?_
              with_reducible refine (laws_markText.calls k1 (wrap64 (x1_1 + 1)) t623 _ A6.out).mono ?_
              rintro e w11 ⟨rfl, hb⟩
              refine ⟨_, rfl, ?_⟩
              have n0_ := Aside0.mk (below_step (by repeat (first | (with_reducible first | exact HB.out | apply below_alloc | apply pw_below_drewN | apply below_drew1) | exact HB.out)) hb)
              clear HB
              have HB := n0_
              clear n0_
              (try clear hb)
              (try clear hb2)
              (try clear hk)
              (try clear hi)
              refine hK.out _ _ ⟨((HB.out.cell (World.block_lt_of_cell? w _ hw622_0)).trans hw622_0), ((HB.out.cell (World.block_lt_of_cell? w _ hw622_1)).trans hw622_1)⟩ (fun hHeld => ?_)
              clear hK K
              refine norm_ (a' := ?_) ?_ ?_
              rotate_left
              · show Act.put _ (some 27) _ = _
                simp only [Act.put, List.setIfInBounds_toArray, List.set_cons_zero, List.set_cons_succ, i64_w, i32_w]
                rfl
              refine pure_ (i := 7) (N := some 28) (v := ?_) (a' := ?_) #[true, true, true, true, true, true, true, true] rfl rfl (any_of HT_.out (by kernel_rfl)) (fun _ _ _ h => h) (Or.inl ⟨by rfl, ?_⟩) ?_ ?_
              rotate_left
              · intro w'
                go_simp
                with_reducible rfl
              rotate_left
              · simp only [Act.put, List.setIfInBounds_toArray, List.set_cons_zero, List.set_cons_succ, i64_w, i32_w]
                rfl
              refine done_ (done_of HT_.out (by kernel_rfl)) ?_
              try go_wp2
              go_ret
              exact ⟨by first | rfl | (simp [errW_none, errW_some] <;> rfl) | (simp [*, errW_none, errW_some] <;> rfl), by repeat (first | (with_reducible first | exact HB.out | apply below_alloc | apply pw_below_drewN | apply below_drew1) | exact HB.out)⟩
          · rw [if_neg c5] at H
            have c5b0 : (((rd_T55 l0 x5_1).f0) == x1_1) = false := beq_eq_false_iff_ne.mpr c5
            have c5b1 : (((rd_T55 l0 x5_1).f0) != x1_1) = true := bne_iff_ne.mpr c5
            obtain rfl := Option.some.inj H
            have p621 : 0 ≤ (x5_1 : Int) := of_decide_eq_true (by first | (with_reducible assumption) | assumption)
            have q621 : x5_1 < (l0.length : Int) := of_decide_eq_true (by first | (with_reducible assumption) | assumption)
            obtain ⟨ad621, e621, hx621_0, hx621_1⟩ := at_T55 HR0.out x5_1 p621 q621
            cases e621
            replace hx621_0 := (HB.out.cell (World.block_lt_of_cell? w _ hx621_0)).trans hx621_0
            replace hx621_1 := (HB.out.cell (World.block_lt_of_cell? w _ hx621_1)).trans hx621_1
            replace p621 := eq_true p621
            replace q621 := eq_true q621
            go_wp2
            go_ret
            exact ⟨by first | rfl | (simp [errW_none, errW_some] <;> rfl) | (simp [*, errW_none, errW_some] <;> rfl), by repeat (first | (with_reducible first | exact HB.out | apply below_alloc | apply pw_below_drewN | apply below_drew1) | exact HB.out)⟩
        · rw [if_neg c4] at H
          exact absurd H (by simp)
      · rw [if_neg c3] at H
        have c3b0 : decide (x5_1 < (l0.length : Int)) = false := decide_eq_false c3
        clear c3
        obtain rfl := Option.some.inj H
        go_wp2
        go_ret
        exact ⟨by first | rfl | (simp [errW_none, errW_some] <;> rfl) | (simp [*, errW_none, errW_some] <;> rfl), by repeat (first | (with_reducible first | exact HB.out | apply below_alloc | apply pw_below_drewN | apply below_drew1) | exact HB.out)⟩
end Go.Proofs.Ytnjmhlhlmokjnaa.G
