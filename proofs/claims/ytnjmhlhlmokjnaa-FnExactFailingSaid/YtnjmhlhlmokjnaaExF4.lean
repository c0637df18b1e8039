/-
  Part 4 of the texts of this claim: XSet, XSortPlain, XSorted, XKeys, XUnitsImpl, XUnitsSpec, XFailing.
-/
import Derived.Maps.OwnSet
import Derived.Maps.RangeWalk
import Derived.Deep.QuietTactic
import Derived.BigQuiet
import Derived.RegionTactic
import Derived.ChangeAlike
import Derived.BigRegion
import Derived.Test.YtnjmhlhlmokjnaaExF3
namespace Go.Proofs.Ytnjmhlhlmokjnaa.G
open Go.RowKit Go.Maps Go.Proofs.YtnjmhlhlmokjnaaW.PrintWords
set_option linter.unusedVariables false
set_option linter.unusedSimpArgs false
theorem law9 : Keyed Try.prog 9 := string_keyed Try.underlying9
theorem zero4 (w : World) : (zeroValue 4).run Try.prog w = .ok (.bool false) w := by kernel_rfl
def fine (s : ByteArray) : Prop := s.size ≤ 9223372036854775807
theorem key9 {s : ByteArray} (h : fine s) : keyOf Try.prog 9 (.string s) = some (.string s.data.toList) := Go.WideMaps.keyOf_string_mk Try.underlying9 (by unfold fine at h; unfold maxLen; exact h)
theorem plainElem_bool_inv {H : Type} {v : Value} {z : DataW H × List MemPlace} (h : plainElem Try.prog 4 v = some z) : ∃ b, v = .bool b ∧ z = (.lit (.bool b), []) := by
  unfold plainElem at h
  rw [Try.underlying4] at h
  cases v <;> simp at h
  exact ⟨_, rfl, h.symm⟩
theorem keyOf_string_inv {key : Value} {kl : Lit} (h : keyOf Try.prog 9 key = some kl) : ∃ s, key = .string s ∧ kl = .string s.data.toList ∧ fine s := by
  cases key <;> simp [keyOf, Try.underlying9, mapKey] at h
  obtain ⟨hw, rfl⟩ := h
  exact ⟨_, rfl, rfl, by unfold fine; unfold maxLen at hw; exact hw⟩
theorem data_inj {s t : ByteArray} (h : s.data.toList = t.data.toList) : s = t := by
  cases s; cases t
  simp at h
  rw [h]
theorem lit_ne {s t : ByteArray} (h : s ≠ t) : (Lit.string s.data.toList) ≠ .string t.data.toList := fun e => h (data_inj (by injection e))
def SetM (w : World) (b n : Nat) (S : ByteArray → Bool) : Prop :=
  ∃ D : DataW Unit, w.ownsMap Try.prog 9 (plainElem Try.prog 4) b n D ∧ (∀ s, fine s → D.atKey (.string s.data.toList) (.lit (.bool false)) = .lit (.bool (S s))) ∧ ∀ s, fine s → Maps.has D (.string s.data.toList) = S s
section
variable {w w1 : World} {b n : Nat} {S : ByteArray → Bool}
theorem SetM.made (w : World) : SetM (w.alloc (.map #[] 0)) w.heap.size 0 (fun _ => false) :=
  ⟨.map [], World.ownsMap_made w _ _ _, fun _ _ => rfl, fun _ _ => rfl⟩
theorem SetM.lt (h : SetM w b n S) : b < w.heap.size := by obtain ⟨D, h, _⟩ := h; exact h.lt
theorem SetM.mono (h : SetM w b n S) {n' : Nat} (hn : n ≤ n') : SetM w b n' S := by obtain ⟨D, h, r⟩ := h; exact ⟨D, h.mono hn, r⟩
theorem SetM.block (h : SetM w b n S) : ∃ es clock, w.heap[b]? = some (.map es clock) := by
  obtain ⟨D, ⟨es, clock, hb, _⟩, _⟩ := h
  exact ⟨es, clock, hb⟩
theorem SetM.move (h : SetM w b n S) (hm : w1.heap[b]? = w.heap[b]?) : SetM w1 b n S := by
  obtain ⟨D, ⟨es, clock, hb, r0⟩, r⟩ := h
  exact ⟨D, ⟨es, clock, hm.trans hb, r0⟩, r⟩
theorem SetM.below (h : SetM w b n S) (hb : Below w.heap.size w w1) : SetM w1 b n S := h.move (hb.block b h.lt)
theorem SetM.grown (h : SetM w b n S) {row : Option Nat} (hg : w.grownBy w1 row) (hne : some b ≠ row) : SetM w1 b n S := h.move (hg.block b h.lt hne)
theorem SetM.alloc (h : SetM w b n S) (o : Obj) : SetM (w.alloc o) b n S := h.below (below_alloc (Below.refl _ _) o)
theorem SetM.drewN (h : SetM w b n S) (m : Nat) : SetM (w.drewN m) b n S := h.below (pw_below_drewN (Below.refl _ _) m)
theorem SetM.look (h : SetM w b n S) {s : ByteArray} (hs : fine s) : (Instr.lookup 64 (.map (some b)) (.string s) false).run Try.prog w = .ok (.bool (S s)) w := by
  obtain ⟨D, h, ha, _⟩ := h
  obtain ⟨v, ps, hrun, hv⟩ := h.lookup law9 Try.underlying64 (zero4 w) (plainElem_bool Try.underlying4 false) (key9 hs)
  obtain ⟨c, rfl, hc⟩ := plainElem_bool_inv hv
  rw [ha s hs] at hc
  have hc2 : S s = c := by
    simp at hc
    exact hc.1
  rw [hrun, ← hc2]
theorem SetM.put (h : SetM w b n S) (hn : n < 9223372036854775807) {s : ByteArray} (hs : fine s) :
    ∃ w', (Instr.mapUpdate 64 (.map (some b)) (.string s) (.bool true)).run Try.prog w = .ok () w' ∧ SetM w' b (n + 1) (fun x => decide (x = s) || S x) ∧ w.grownBy w' (some b) := by
  obtain ⟨D, h, ha, hh⟩ := h
  obtain ⟨w', hrun, h2, hg⟩ := h.update law9 Try.underlying64 (by unfold maxLen; exact hn) (key9 hs) (plainElem_bool Try.underlying4 true)
  refine ⟨w', hrun, ⟨_, h2, fun x hx => ?_, fun x hx => ?_⟩, hg⟩
  · by_cases e : x = s
    · subst e
      rw [atKey_put_same h.isMap (by trivial)]
      simp
    · rw [atKey_put_other (lit_ne e), ha x hx]
      simp [e]
  · by_cases e : x = s
    · subst e
      rw [has_put_same h.isMap (by trivial)]
      simp
    · rw [has_put_other (lit_ne e), hh x hx]
      simp [e]
theorem SetM.drop (h : SetM w b n S) {s : ByteArray} (hs : fine s) (ty : TypeId) :
    ∃ w', (Builtin.delete_ #[64, 9] ty #[.map (some b), .string s]).run Try.prog w = .ok (.tuple #[]) w' ∧ SetM w' b n (fun x => !decide (x = s) && S x) ∧ w.grownBy w' (some b) := by
  obtain ⟨D, h, ha, hh⟩ := h
  obtain ⟨w', hrun, h2, hg⟩ := h.drop law9 Try.underlying64 (key9 hs) ty
  refine ⟨w', hrun, ⟨_, h2, fun x hx => ?_, fun x hx => ?_⟩, hg.grown⟩
  · by_cases e : x = s
    · subst e
      rw [atKey_del_same]
      simp
    · rw [atKey_del_other (lit_ne e), ha x hx]
      simp [e]
  · by_cases e : x = s
    · subst e
      rw [has_del_same]
      simp
    · rw [has_del_other (lit_ne e), hh x hx]
      simp [e]
end
section
variable (w : World) {ops : Array Oper} {rest : List Oper} {o : Oper} {a : Act} {Q : Exit → Act → World → Prop}
theorem wpList_set_put (hg : o.guard = none) (m x v : Operand) (hop : o.op = Op.mapUpdate 64 m x v) (b n : Nat) (S : ByteArray → Bool) (s : ByteArray)
    (hm : a.eval m = .map (some b)) (hx : a.eval x = .string s) (hv : a.eval v = .bool true) (h : SetM w b n S) (hn : n < 9223372036854775807) (hs : fine s)
    (hK : ∀ w', SetM w' b (n + 1) (fun x => decide (x = s) || S x) → w.grownBy w' (some b) → wpList Try.prog ops Q rest (a.put o.dst undef) w') : wpList Try.prog ops Q (o :: rest) a w := by
  refine wpList_plain hg fun K' hK' => ?_
  obtain ⟨w', hrun, r1, r2⟩ := h.put hn hs
  unfold Oper.wp
  simp [execOp, hop, hm, hx, hv, hrun, Result.andThen]
  exact hK' _ _ (hK w' r1 r2)
theorem wpList_set_look (hg : o.guard = none) (m x : Operand) (hop : o.op = Op.lookup 64 m x false) (b n : Nat) (S : ByteArray → Bool) (s : ByteArray)
    (hm : a.eval m = .map (some b)) (hx : a.eval x = .string s) (h : SetM w b n S) (hs : fine s)
    (hK : wpList Try.prog ops Q rest (a.put o.dst (.bool (S s))) w) : wpList Try.prog ops Q (o :: rest) a w := by
  refine wpList_plain hg fun K' hK' => ?_
  unfold Oper.wp
  simp [execOp, hop, hm, hx, h.look hs, Result.andThen]
  exact hK' _ _ hK
def SetR (w : World) (b r n : Nat) (S L : ByteArray → Bool) (cnt : Nat) : Prop :=
  ∃ (D : DataW Unit) (left : Lit → Bool), w.ranges Try.prog 9 (plainElem Try.prog 4) b r n D left cnt ∧ (∀ s, fine s → D.atKey (.string s.data.toList) (.lit (.bool false)) = .lit (.bool (S s))) ∧ (∀ s, fine s → Maps.has D (.string s.data.toList) = S s) ∧ ∀ s, fine s → left (.string s.data.toList) = L s
theorem SetR.left_eq {w : World} {b r n cnt : Nat} {S L : ByteArray → Bool} (h : SetR w b r n S L cnt) : w.rangeLeft b r = cnt := by obtain ⟨D, left, h, _⟩ := h; exact h.left_eq
theorem SetR.move {w w1 : World} {b r n cnt : Nat} {S L : ByteArray → Bool} (h : SetR w b r n S L cnt) {row : Option Nat} (hg : w.grownBy w1 row) (hb : some b ≠ row) (hr : some r ≠ row) : SetR w1 b r n S L cnt := by
  obtain ⟨D, left, h, x⟩ := h
  exact ⟨D, left, h.kept hg hb hr, x⟩
theorem SetR.lt {w : World} {b r n cnt : Nat} {S L : ByteArray → Bool} (h : SetR w b r n S L cnt) : r < w.heap.size := by obtain ⟨D, left, h, _⟩ := h; exact h.lt
theorem wpList_set_range (hg : o.guard = none) (m : Operand) (hop : o.op = Op.range 64 m) (b n : Nat) (S : ByteArray → Bool) (hm : a.eval m = .map (some b)) (h : SetM w b n S)
    (hK : ∀ w' cnt, SetR w' b w.heap.size n S S cnt → w.grownBy w' none → w'.heap.size = w.heap.size + 1 → wpList Try.prog ops Q rest (a.put o.dst (.pointer (some ⟨w.heap.size, 0, none⟩))) w') :
    wpList Try.prog ops Q (o :: rest) a w := by
  obtain ⟨D, hown, ha, hh⟩ := h
  exact wpList_range_own w hg m 64 hop 9 4 law9 Try.underlying64 _ b n D hm hown (fun w' hr hg hs => hK w' _ ⟨D, _, hr, ha, hh, hh⟩ hg hs)
theorem wpList_set_next (hg : o.guard = none) (it : Operand) (hop : o.op = Op.next it false) (b r n : Nat) (S L : ByteArray → Bool) (cnt : Nat)
    (hit : a.eval it = .pointer (some ⟨r, 0, none⟩)) (h : SetR w b r n S L cnt)
    (hDone : (∀ s, fine s → L s = false) → wpList Try.prog ops Q rest (a.put o.dst (.tuple #[.bool false])) w)
    (hMore : ∀ (s : ByteArray) (w' : World) (cnt' : Nat), fine s → L s = true → S s = true → SetR w' b r n S (fun x => L x && !decide (x = s)) cnt' → cnt' < cnt →
      w.grownBy w' (some r) → w'.heap.size = w.heap.size → (Instr.entry (.pointer (some ⟨r, 0, none⟩))).run Try.prog w' = .ok (.tuple #[.string s, .bool true]) w' → wpList Try.prog ops Q rest (a.put o.dst (.tuple #[.bool true, .string s, .bool true])) w') :
    wpList Try.prog ops Q (o :: rest) a w := by
  obtain ⟨D, left, hr, ha, hh, hl⟩ := h
  refine wpList_next_ranges w hg it hop 9 law9 (plainElem Try.prog 4) Value.string Value.bool (fun key kl hk => by obtain ⟨s, rfl, _⟩ := keyOf_string_inv hk; exact ⟨s, rfl⟩) (fun v y hv => by obtain ⟨c, rfl, _⟩ := plainElem_bool_inv hv; exact ⟨c, rfl⟩)
    b r n D left cnt hit hr (fun _ hl0 => hDone (fun s hs => by rw [← hl s hs]; exact hl0 _)) ?_
  intro s c kl y w' cnt' hkey hlk hv hat hrg hlt hgr hsz hen
  obtain ⟨s', es, rfl, hs⟩ := keyOf_string_inv hkey
  cases es
  obtain ⟨c', ec, rfl⟩ := plainElem_bool_inv hv
  cases ec
  have hS : S s = c := by
    have := (ha s hs).symm.trans (hat (.lit (.bool false)))
    simpa using this
  have hLs : L s = true := by rw [← hl s hs]; exact hlk
  have hhs : S s = true := by
    rw [← hh s hs]
    exact Maps.has_true_of_atKey hat
  have hc : c = true := by rw [← hS]; exact hhs
  subst hc
  refine hMore s w' cnt' hs hLs hhs ⟨D, _, hrg, ha, hh, fun x hx => ?_⟩ hlt hgr hsz hen
  show (left (.string x.data.toList) && !(Lit.string x.data.toList).sameKey (.string s.data.toList)) = _
  rw [hl x hx]
  by_cases e : x = s
  · subst e
    rw [WideAt.sameKey_self (by trivial)]
    simp
  · rw [Maps.sameKey_ne (lit_ne e)]
    simp [e]
end
end Go.Proofs.Ytnjmhlhlmokjnaa.G
namespace Go.Proofs.Ytnjmhlhlmokjnaa.G
set_option linter.unusedVariables false
set_option linter.unusedSimpArgs false
def atB (l : List ByteArray) (i : Nat) : ByteArray := l.getD i ByteArray.empty
def SrtBut (l : List ByteArray) (i j : Nat) : Prop := ∀ a b, a < b → b ≤ i → b ≠ j → lessB (atB l b) (atB l a) = false
def Srt (l : List ByteArray) (i : Nat) : Prop := ∀ a b, a < b → b < i → lessB (atB l b) (atB l a) = false
theorem srt_one (l : List ByteArray) : Srt l 1 := fun a b h k => by omega
theorem srt_start {l : List ByteArray} {i : Nat} (h : Srt l i) : SrtBut l i i := fun a b hab hb hne => h a b hab (by omega)
def swapB (l : List ByteArray) (j : Nat) : List ByteArray := (l.set (j - 1) (atB l j)).set j (atB l (j - 1))
theorem at_set {l : List ByteArray} {i : Nat} (x : ByteArray) (j : Nat) (hi : i < l.length) : atB (l.set i x) j = if i = j then x else atB l j := by
  unfold atB
  simp only [List.getD_eq_getElem?_getD, List.getElem?_set]
  split
  · simp [hi]
  · rfl
theorem at_swap {l : List ByteArray} {j : Nat} (h0 : 0 < j) (hj : j < l.length) (b : Nat) : atB (swapB l j) b = if b = j then atB l (j - 1) else if b = j - 1 then atB l j else atB l b := by
  unfold swapB
  rw [at_set _ _ (by simpa using hj), at_set _ _ (by omega)]
  by_cases h1 : b = j
  · rw [if_pos h1, if_pos h1.symm]
  · rw [if_neg h1, if_neg (fun e => h1 e.symm)]
    by_cases h2 : b = j - 1
    · rw [if_pos h2, if_pos h2.symm]
    · rw [if_neg h2, if_neg (fun e => h2 e.symm)]
theorem swap_perm {l : List ByteArray} {j : Nat} (h0 : 0 < j) (hj : j < l.length) : (swapB l j).Perm l := by
  unfold swapB
  have e1 : atB l j = l[j] := by simp [atB, List.getD_eq_getElem?_getD, hj]
  have e2 : atB l (j - 1) = l[j - 1] := by simp [atB, List.getD_eq_getElem?_getD, show j - 1 < l.length by omega]
  rw [e1, e2]
  exact List.set_set_perm (by omega) hj
theorem srt_swap {l : List ByteArray} {i j : Nat} (h : SrtBut l i j) (h0 : 0 < j) (hj : j ≤ i) (hi : i < l.length) (hlt : lessB (atB l j) (atB l (j - 1)) = true) : SrtBut (swapB l j) i (j - 1) := by
  intro a b hab hb hne
  rw [at_swap h0 (by omega), at_swap h0 (by omega)]
  have asym := lt_asymm hlt
  split
  · subst_vars
    split
    · omega
    · split
      · exact asym
      · exact h a (b - 1) (by omega) (by omega) (by omega)
  · rename_i hbj
    split
    · subst_vars
      exact h (a - 1) b (by omega) hb hbj
    · split
      · subst_vars
        exact h j b (by omega) hb hbj
      · exact h a b hab hb hbj
theorem nlt_trans {a b c : ByteArray} (h : lessB b a = false) (k : lessB c b = false) : lessB c a = false := by
  rcases lt_tri c a with e | e | e
  · rcases lt_tri b a with f | f | f
    · rw [h] at f; cases f
    · subst f; rw [k] at e; cases e
    · rw [lt_trans e f] at k; cases k
  · subst e; exact lt_irrefl _
  · exact lt_asymm e
theorem srt_stop {l : List ByteArray} {i j : Nat} (h : SrtBut l i j) (hj : j ≤ i) (hs : j = 0 ∨ lessB (atB l j) (atB l (j - 1)) = false) : Srt l (i + 1) := by
  intro a b hab hb
  by_cases e : b = j
  · subst e
    rcases hs with hs | hs
    · omega
    · by_cases f : a = b - 1
      · subst f; exact hs
      · exact nlt_trans (h a (b - 1) (by omega) (by omega) (by omega)) hs
  · exact h a b hab (by omega) e
theorem sorted_of_srt {l : List ByteArray} (h : Srt l l.length) : l.Pairwise fun a b => lessB b a = false := by
  rw [List.pairwise_iff_getElem]
  intro a b ha hb hab
  have := h a b hab hb
  simpa [atB, List.getD_eq_getElem?_getD, ha, hb] using this
theorem canon_of_sorted {l m o : List ByteArray} (hs : Srt m m.length) (hp : m.Perm o) (hn : o.Nodup) (hm : ∀ x, x ∈ o ↔ x ∈ l) : m = canonL l :=
  asc_unique _ _ (asc_of_sorted (sorted_of_srt hs) (hp.nodup_iff.2 hn)) (asc_canonL l) (fun x => by rw [hp.mem_iff, hm, mem_canonL])
end Go.Proofs.Ytnjmhlhlmokjnaa.G
namespace Go.Proofs.Ytnjmhlhlmokjnaa.G
open Go.RowKit Go.Maps Go.Proofs.YtnjmhlhlmokjnaaW.PrintWords Go.Proofs.YtnjmhlhlmokjnaaW.PrintLast
set_option linter.unusedVariables false
set_option linter.unusedSimpArgs false
instance (s : ByteArray) : Decidable (fine s) := by unfold fine; infer_instance
def impl_sortedSet.f (l : List ByteArray) : Option (List ByteArray) := if l.length ≤ 1000000 ∧ ∀ s ∈ l, fine s then some (canonL l) else none
theorem rd_mem {l : List ByteArray} {j : Nat} (h : j < l.length) : rdOf ByteArray.empty l (j : Int) ∈ l := by
  rw [rdOf_nat _ _ _ h]
  exact List.getElem_mem h
theorem mem_take_step {l : List ByteArray} {j : Nat} (h : j < l.length) (x : ByteArray) : x ∈ l.take (j + 1) ↔ x = rdOf ByteArray.empty l (j : Int) ∨ x ∈ l.take j := by
  rw [rdOf_nat _ _ _ h, List.take_succ_eq_append_getElem h]
  rw [List.mem_append, List.mem_singleton, or_comm]
theorem len_le_of {α : Type} [DecidableEq α] : ∀ (xs l : List α), xs.Nodup → (∀ x ∈ xs, x ∈ l) → xs.length ≤ l.length
  | [], _, _, _ => Nat.zero_le _
  | x :: xs, l, h, hs => by
    have h' := List.nodup_cons.1 h
    have := len_le_of xs (l.erase x) h'.2 (fun y hy => (List.mem_erase_of_ne (fun e => h'.1 (by rw [← e]; exact hy))).2 (hs y (by simp [hy])))
    have h2 := List.length_erase_of_mem (hs x (by simp))
    have h3 := List.length_pos_of_mem (hs x (by simp))
    simp only [List.length_cons]
    omega
theorem gtr_eq (y x : ByteArray) : (!Op.bytesLess y.toList x.toList && !y.toList == x.toList) = lessB x y := by
  rcases lt_tri y x with h | h | h
  · have h2 := lt_asymm h
    unfold lessB at h h2 ⊢
    rw [h2, h]; rfl
  · subst h
    rw [lt_irrefl]
    simp
  · have h2 := lt_asymm h
    have h3 : (y.toList == x.toList) = false := by
      rw [beq_eq_false_iff_ne]
      intro e
      exact lt_ne h (toList_inj e).symm
    unfold lessB at h2
    rw [h2, h3, h]; rfl
structure Gath (l0 : List ByteArray) (L : ByteArray → Bool) (xs : List ByteArray) : Prop where
  nodup : xs.Nodup
  mem : ∀ x ∈ xs, x ∈ l0 ∧ L x = false
  all : ∀ x ∈ l0, fine x → L x = false → x ∈ xs
theorem Gath.step {l0 : List ByteArray} {L : ByteArray → Bool} {xs : List ByteArray} (h : Gath l0 L xs) {s : ByteArray} (hs : s ∈ l0) (hL : L s = true) : Gath l0 (fun x => L x && !decide (x = s)) (xs ++ [s]) where
  nodup := by
    rw [List.nodup_append]
    refine ⟨h.nodup, by simp, ?_⟩
    intro a ha b hb
    rw [List.mem_singleton.1 hb]
    rintro rfl
    have := (h.mem _ ha).2
    rw [hL] at this; cases this
  mem := by
    intro x hx
    rcases List.mem_append.1 hx with hx | hx
    · exact ⟨(h.mem x hx).1, by simp [(h.mem x hx).2]⟩
    · rw [List.mem_singleton.1 hx]; exact ⟨hs, by simp⟩
  all := by
    intro x hx hf hl
    by_cases e : x = s
    · simp [e]
    · have : L x = false := by simpa [e] using hl
      simp [h.all x hx hf this]
theorem Gath.perm {l0 : List ByteArray} {L : ByteArray → Bool} {xs : List ByteArray} (h : Gath l0 L xs) (hf : ∀ s ∈ l0, fine s) (hd : ∀ s, fine s → L s = false) (x : ByteArray) : x ∈ xs ↔ x ∈ l0 :=
  ⟨fun hx => (h.mem x hx).1, fun hx => h.all x hx (hf x hx) (hd x (hf x hx))⟩
set_option maxHeartbeats 8000000 in
set_option maxRecDepth 100000 in
theorem impl_sortedSet.calls (A0 : Option Addr) (c0 : Nat) (l0 : List ByteArray) (r : List ByteArray) (w : World) (hr0 : Kd.C Kd.string w A0 l0.length l0) (hc0 : l0.length ≤ c0) (h : impl_sortedSet.f l0 = some r) :
    Calls Try.prog 69 #[.slice A0 l0.length c0] w fun e w' => ∃ v0_, e = .returned (v0_) ∧ Kd.R Kd.string 9 w' w.heap.size (fun _ => True) v0_ r ∧ Below w.heap.size w w' := by
  have HR := Aside0.mk hr0
  clear hr0 hc0
  unfold impl_sortedSet.f at h
  have hcond : l0.length ≤ 1000000 ∧ ∀ s ∈ l0, fine s := by
    by_cases c : l0.length ≤ 1000000 ∧ ∀ s ∈ l0, fine s
    · exact c
    · rw [if_neg c] at h; cases h
  rw [if_pos hcond] at h
  obtain rfl := Option.some.inj h
  clear h
  obtain ⟨hlen, hf⟩ := hcond
  have HF := Aside0.mk hf
  clear hf
  have hmm := @run_makeMap Try.prog
  go_enter Try.func69, Try.ntmps69
  go_wp2
  go_loopw [13] (fun i wr => ∃ (j : Nat) (S : ByteArray → Bool), j ≤ l0.length ∧ i = .int .i64 j ∧ Aside0 (SetM wr w.heap.size j S) ∧ Aside0 (∀ x, S x = true ↔ x ∈ l0.take j) ∧ Aside0 (Below w.heap.size w wr)) (fun i _ => l0.length - (intOf i).toNat)
  case atStart => exact ⟨0, _, Nat.zero_le _, rfl, ⟨SetM.made w⟩, ⟨by simp⟩, ⟨below_alloc (Below.refl _ _) _⟩⟩
  case round =>
    obtain ⟨j, S, hj, rfl, HS, HM, HB⟩ := hrel
    by_cases hlt : j < l0.length
    · obtain ⟨ad, hA, x0⟩ := Kd.at_string HR.out (j : Int) (by omega) (by omega)
      cases hA
      obtain ⟨u, hu0⟩ : ∃ u, u = rdOf ByteArray.empty l0 (j : Int) := ⟨_, rfl⟩
      rw [← hu0] at x0
      simp only [Int.toNat_natCast] at x0
      have HU := Aside0.mk hu0
      replace x0 := (HB.out.cell (World.block_lt_of_cell? w _ x0)).trans x0
      have HFu : fine u := by rw [hu0]; exact HF.out _ (rd_mem hlt)
      clear hu0
      go_wp2_with (first | (at_mapUpdate; refine wpList_set_put _ rfl _ _ _ rfl w.heap.size j S u rfl rfl rfl HS.out (by omega) HFu ?_; intro w1 hs1 hg1) | fail)
      go_roundw
      case rel =>
        refine ⟨j + 1, _, hlt, ?_, ⟨hs1⟩, ⟨fun x => ?_⟩, ⟨?_⟩⟩
        · simp
        · rw [mem_take_step hlt, ← HM.out x, ← HU.out]
          simp
        · exact HB.out.grown hg1 HB.out.size (fun k hk => by cases hk; exact Nat.le_refl _)
      case measure => simp [intOf]; omega
    · have hje : j = l0.length := by omega
      subst hje
      go_wp2_with (first | ((with_reducible refine gate_dst (N := 20) rfl ?_); refine Kd.R_lit Kd.string (w0 := w) w.heap.size 9 ?hg (N := 20) ?hd (xs := ([] : List ByteArray)) (inner := []) (ok := fun k => k ≠ w.heap.size) (okp := fun _ => False) ?hr ?hp (fun _ hk => hk.elim) ?hf HB.out HB.out.size (by simp) ?_; (case hd => rfl); (case hg => rfl); (case hf => exact Nat.ne_of_gt HS.out.lt); (case hr => first | (go_simp; done) | (go_simp; rfl)); (case hp => exact (Reps.none _ _)); intro v w3 ho hb hg_ hnew_) | (at_range; refine wpList_set_range _ rfl _ rfl w.heap.size l0.length S rfl (HS.out.grown hg_ (by simp)) ?_; intro w4 cnt4 hr4 hg4 hs4) | fail)
      go_frame
      have HO4 := Aside0.mk (Kd.R_mono (ok' := fun k => k ≠ w.heap.size ∧ k ≠ w3.heap.size) (Kd.R_grown (Kd.R_bound ho) hg4 (fun k hk => by simp)) (fun k hk => ⟨hk.1, Nat.ne_of_lt hk.2.2.1⟩))
      have HB4 := Aside0.mk (hb.grown hg4 hb.size (fun k hk => by cases hk))
      have HR4 := Aside0.mk hr4
      have hrb : w.heap.size < w3.heap.size := Nat.lt_of_lt_of_le HS.out.lt hg_.size
      have hbs : w3.heap.size < w4.heap.size := by omega
      obtain ⟨rb, hrbe⟩ : ∃ rb, rb = w3.heap.size := ⟨_, rfl⟩
      rw [← hrbe] at hrb hbs HR4 HO4 ⊢
      clear hrbe ho hb hg_ hnew_ hr4 hg4 hs4
      have HG4 : Aside0 (Gath l0 S []) := ⟨⟨List.nodup_nil, by simp, fun x hx _ hn => by
        have := (HM.out x).2 (by rw [List.take_length]; exact hx)
        rw [hn] at this; cases this⟩⟩
      go_loopw [6] (fun v6 wr => ∃ (L : ByteArray → Bool) (cnt : Nat) (xs : List ByteArray), Aside0 (SetR wr w.heap.size rb l0.length S L cnt) ∧ Aside0 (Kd.R Kd.string 9 wr w.heap.size (fun k => k ≠ w.heap.size ∧ k ≠ rb) v6 xs) ∧ Aside0 (Gath l0 L xs) ∧ Aside0 (Below w.heap.size w wr) ∧ rb < wr.heap.size) (fun _ wr => wr.rangeLeft w.heap.size rb)
      case atStart => exact ⟨_, _, _, HR4, HO4, HG4, HB4, hbs⟩
      case round =>
        clear HR4 HO4 HG4 HB4 hbs
        obtain ⟨L, cnt, xs, HRr, HO, HG, HBr, hsz⟩ := hrel
        go_wp2_with (first | (at_next; refine wpList_set_next _ rfl _ rfl w.heap.size rb l0.length S L cnt rfl HRr.out ?_ ?_) | fail)
        · intro hdone
          have hperm := fun x => HG.out.perm HF.out hdone x
          have hnd := HG.out.nodup
          have hxl : xs.length ≤ l0.length := len_le_of xs l0 hnd (fun x hx => (HG.out.mem x hx).1)
          have HP := Aside0.mk (And.intro hnd hperm)
          clear hnd hperm hdone HRr HG
          go_wp2_with fail
          go_loopw [8] (fun i wr => ∃ (k : Nat) (ys : List ByteArray), 1 ≤ k ∧ k ≤ 1000001 ∧ i = .int .i64 k ∧ Aside0 (Kd.R Kd.string 9 wr w.heap.size (fun k => k ≠ w.heap.size ∧ k ≠ rb) u6 ys) ∧ Aside0 (ys.Perm xs) ∧ Aside0 (Srt ys k) ∧ Aside0 (Below w.heap.size w wr)) (fun i _ => xs.length - (intOf i).toNat)
          case atStart => exact ⟨1, xs, Nat.le_refl _, by omega, rfl, HO, ⟨List.Perm.refl _⟩, ⟨srt_one _⟩, HBr⟩
          case round =>
            clear HO HBr
            obtain ⟨k, ys, hk1, hk2, rfl, HO, HPm, HS, HBr⟩ := hrel
            have hyl : ys.length = xs.length := HPm.out.length_eq
            by_cases hlt : k < ys.length
            · obtain ⟨g, co, rfl, hgb, hgl, hgc, hGG⟩ := Kd.R_form HO.out (by omega)
              rw [hyl] at HO hlt ⊢
              have hd1 : decide ((k : Int) < (xs.length : Int)) = true := decide_eq_true (by omega)
              go_wp2_with fail
              go_loopw [9] (fun i wr => ∃ (j : Nat) (zs : List ByteArray), j ≤ k ∧ i = .int .i64 j ∧ Aside0 (Kd.R Kd.string 9 wr w.heap.size (fun k => k ≠ w.heap.size ∧ k ≠ rb) (.slice (some ⟨g, 0, none⟩) xs.length co) zs) ∧ Aside0 (zs.Perm xs) ∧ Aside0 (SrtBut zs k j) ∧ Aside0 (Below w.heap.size w wr)) (fun i _ => (intOf i).toNat)
              case atStart => exact ⟨k, ys, Nat.le_refl _, rfl, HO, HPm, ⟨srt_start HS.out⟩, HBr⟩
              case round =>
                clear HO HPm HS HBr hGG hgl
                obtain ⟨j, zs, hjk, rfl, HO, HPm, HS, HBr⟩ := hrel
                have hzl : zs.length = xs.length := HPm.out.length_eq
                have stop : Aside0 (j = 0 ∨ lessB (atB zs j) (atB zs (j - 1)) = false) → Aside0 (Srt zs (k + 1)) := fun h => ⟨srt_stop HS.out hjk h.out⟩
                by_cases hj0 : 0 < j
                · have h0a : decide ((0 : Int) < (j : Int)) = true := decide_eq_true (by omega)
                  have h0b : decide (0 < j) = true := decide_eq_true (by omega)
                  have q0 : ((j : Int) - 1).toNat = j - 1 := by omega
                  have q1 : (j : Int) - 1 = ((j - 1 : Nat) : Int) := by omega
                  obtain ⟨cj, fj⟩ := Kd.R_celln (⟨#[]⟩ : ByteArray) HO.out (j : Int) (by omega) (by omega)
                  obtain ⟨ci, fi⟩ := Kd.R_celln (⟨#[]⟩ : ByteArray) HO.out (j - 1 : Int) (by omega) (by omega)
                  have ex : rdOf (⟨#[]⟩ : ByteArray) zs (j : Int) = atB zs j := rfl
                  have ey : rdOf (⟨#[]⟩ : ByteArray) zs ((j : Int) - 1) = atB zs (j - 1) := by unfold rdOf atB; rw [q0]; rfl
                  rw [ex] at cj
                  rw [ey] at ci
                  rw [q0] at ci fi
                  simp only [Int.toNat_natCast] at cj fj
                  obtain ⟨x, hx⟩ : ∃ x, x = atB zs j := ⟨_, rfl⟩
                  obtain ⟨y, hy⟩ : ∃ y, y = atB zs (j - 1) := ⟨_, rfl⟩
                  rw [← hx] at cj stop
                  rw [← hy] at ci stop
                  have hw1 : IntKind.i64.wrap ((j : Int) - 1) = (j : Int) - 1 := IntWalk.i64_in _ ⟨by omega, by omega⟩
                  have hge : (0 : Int) ≤ (j : Int) - 1 := by omega
                  have hlt1 : (j : Int) - 1 < (xs.length : Int) := by omega
                  have hlt2 : (j : Int) < (xs.length : Int) := by omega
                  have hlt3 : j < xs.length := by omega
                  have HX := Aside0.mk hx
                  have HY := Aside0.mk hy
                  clear hx hy ex ey
                  cases hC : lessB x y with
                  | false =>
                    have hC' : (!Op.bytesLess y.toList x.toList && !y.toList == x.toList) = false := (gtr_eq y x).trans hC
                    have HSt := stop ⟨.inr hC⟩
                    go_wp2_with fail
                    go_quiet (fail)
                    go_wp2_with fail
                    go_roundw
                    case rel => exact ⟨k + 1, zs, by omega, by omega, by simp, ⟨Kd.R_drewN HO.out _⟩, HPm, HSt, ⟨pw_below_drewN HBr.out _⟩⟩
                    case measure => simp [intOf]; omega
                  | true =>
                    have hC' : (!Op.bytesLess y.toList x.toList && !y.toList == x.toList) = true := (gtr_eq y x).trans hC
                    go_wp2_with fail
                    go_quiet (fail)
                    have HO1 := Aside0.mk (Kd.R_drewN HO.out nq)
                    have HB1 := Aside0.mk (pw_below_drewN HBr.out nq)
                    generalize wr.drewN nq = w1 at HO1 HB1 ⊢
                    clear HO HBr cj ci fj fi
                    obtain ⟨cj, fj⟩ := Kd.R_celln (⟨#[]⟩ : ByteArray) HO1.out (j : Int) (by omega) (by omega)
                    obtain ⟨ci, fi⟩ := Kd.R_celln (⟨#[]⟩ : ByteArray) HO1.out (j - 1 : Int) (by omega) (by omega)
                    rw [show rdOf (⟨#[]⟩ : ByteArray) zs (j : Int) = x from HX.out.symm ▸ rfl] at cj
                    rw [show rdOf (⟨#[]⟩ : ByteArray) zs ((j : Int) - 1) = y by rw [HY.out]; unfold rdOf atB; rw [q0]; rfl] at ci
                    rw [q0] at ci fi
                    simp only [Int.toNat_natCast] at cj fj
                    have HP2 : Aside0 (Kd.R Kd.string 9 ((w1.setCell ⟨g, j - 1, none⟩ (.string x)).setCell ⟨g, j, none⟩ (.string y)).drew w.heap.size (fun k => k ≠ w.heap.size ∧ k ≠ rb) (.slice (some ⟨g, 0, none⟩) xs.length co) (swapB zs j)) := ⟨by
                      unfold swapB
                      rw [← HX.out, ← HY.out]
                      exact Kd.R_drew (Kd.R_putn (Kd.R_putn HO1.out ((j - 1 : Nat) : Int) x) ((j : Nat) : Int) y)⟩
                    have HB2 : Aside0 (Below w.heap.size w ((w1.setCell ⟨g, j - 1, none⟩ (.string x)).setCell ⟨g, j, none⟩ (.string y)).drew) := ⟨below_drew1 (below_set (below_set HB1.out hgb) hgb)⟩
                    go_wp2_with fail
                    go_region
                    go_wp2_with fail
                    go_roundw
                    case rel =>
                      exact ⟨j - 1, swapB zs j, by omega, rfl, HP2, ⟨(swap_perm hj0 (by omega)).trans HPm.out⟩, ⟨srt_swap HS.out hj0 hjk (by omega) (by rw [← HX.out, ← HY.out]; exact hC)⟩, HB2⟩
                    case measure => simp [intOf]; omega
                · have hj1 : j = 0 := by omega
                  subst hj1
                  have HSt := stop ⟨.inl rfl⟩
                  go_wp2_with fail
                  go_quiet (fail)
                  go_wp2_with fail
                  go_roundw
                  case rel => exact ⟨k + 1, zs, by omega, by omega, by simp, ⟨Kd.R_drewN HO.out _⟩, HPm, HSt, ⟨pw_below_drewN HBr.out _⟩⟩
                  case measure => simp [intOf]; omega
            · have hd1 : decide ((k : Int) < (xs.length : Int)) = false := decide_eq_false (by omega)
              obtain ⟨A6, c6, rfl⟩ := Kd.R_slice HO.out
              have hres : ys = canonL l0 := canon_of_sorted (o := xs) (fun a b hab hb => HS.out a b hab (by omega)) HPm.out HP.out.1 HP.out.2
              rw [hyl] at HO ⊢
              go_wp2_with fail
              go_ret
              exact ⟨_, rfl, by rw [← hres]; exact Kd.R_mono HO.out (fun _ _ => trivial), HBr.out⟩
        · intro s w5 cnt5 hfs hLs hSs hr5 hlt5 hg5 hs5 hen5
          have hsl : s ∈ l0 := by
            have := (HM.out s).1 hSs
            rwa [List.take_length] at this
          have hO5 := Kd.R_grown HO.out hg5 (fun k hk => by simpa using hk.2)
          have hB5 := HBr.out.grown hg5 HBr.out.size (fun k hk => by cases hk; omega)
          have hxl : xs.length ≤ l0.length := len_le_of xs l0 HG.out.nodup (fun x hx => (HG.out.mem x hx).1)
          have hsz5 : rb < w5.heap.size := by omega
          clear hs5
          go_wp2_with (first | ((with_reducible refine gate_builtin (b := .append) (xs := #[.tmp 27, .tmp 29]) rfl ?_); at_builtin; refine Kd.R_append Kd.string (w0 := w) w.heap.size rfl (.tmp 27) (.tmp 29) 25 9 (.string ⟨#[]⟩) 16 rfl Try.underlying25 info9 rfl (by decide) (by omega) u6 xs s [.string s] (fun k => k ≠ w.heap.size ∧ k ≠ rb) (fun _ => False) rfl rfl ?aP (fun _ hk => hk.elim) ?aF hO5 hB5 ?aS ?aL ?_; (case aP => exact rfl); (case aF => exact (fun k hk => ⟨by omega, by omega⟩)); (case aS => omega); (case aL => omega); intro v1 w1 ho1 hb1 hg1 hat1) | fail)
          go_roundw
          case rel => exact ⟨_, _, _, ⟨hr5.move hg1 (fun e => (HO.out.1 _ e.symm).1 rfl) (fun e => (HO.out.1 _ e.symm).2 rfl)⟩, ⟨ho1⟩, ⟨HG.out.step hsl hLs⟩, ⟨hb1⟩, Nat.lt_of_lt_of_le hsz5 hg1.size⟩
          case measure =>
            rw [(hr5.move hg1 (fun e => (HO.out.1 _ e.symm).1 rfl) (fun e => (HO.out.1 _ e.symm).2 rfl)).left_eq, HRr.out.left_eq]
            exact hlt5
end Go.Proofs.Ytnjmhlhlmokjnaa.G
namespace Go.Proofs.Ytnjmhlhlmokjnaa.G
open Go.RowKit Go.Maps Go.Proofs.YtnjmhlhlmokjnaaW.PrintWords Go.Proofs.YtnjmhlhlmokjnaaW.PrintLast
set_option linter.unusedVariables false
set_option linter.unusedSimpArgs false
theorem sortedSet_mem {l m : List ByteArray} (hm : m.length ≤ 1000000) (hf : ∀ x ∈ m, fine x) (h : ∀ x, x ∈ l ↔ x ∈ m) (hn : l.Nodup) : impl_sortedSet.f l = some (canonL m) := by
  unfold impl_sortedSet.f
  rw [if_pos ⟨Nat.le_trans (len_le_of l m hn (fun x hx => (h x).1 hx)) hm, fun x hx => hf x ((h x).1 hx)⟩, canonL_congr h]
set_option maxHeartbeats 8000000 in
set_option maxRecDepth 100000 in
theorem impl_keysOf.calls (b n : Nat) (S : ByteArray → Bool) (l0 : List ByteArray) (w : World) (hs : SetM w b n S) (hlen : l0.length ≤ 1000000) (hf : ∀ x ∈ l0, fine x) (hm : ∀ x, fine x → (S x = true ↔ x ∈ l0)) :
    Calls Try.prog 45 #[.map (some b)] w fun e w' => ∃ v0_, e = .returned (v0_) ∧ Kd.R Kd.string 9 w' w.heap.size (fun _ => True) v0_ (canonL l0) ∧ Below w.heap.size w w' := by
  have HS := Aside0.mk hs
  have HF := Aside0.mk hf
  have HM := Aside0.mk hm
  clear hs hf hm
  go_enter Try.func45, Try.ntmps45
  go_wp2_with (first | ((with_reducible refine gate_dst (N := 5) rfl ?_); refine Kd.R_lit Kd.string (w0 := w) w.heap.size 9 ?hg (N := 5) ?hd (xs := ([] : List ByteArray)) (inner := []) (ok := fun k => k ≠ b) (okp := fun _ => False) ?hr ?hp (fun _ hk => hk.elim) ?hf (Below.refl _ _) (Nat.le_refl _) (by simp) ?_; (case hd => rfl); (case hg => rfl); (case hf => exact Nat.ne_of_gt HS.out.lt); (case hr => first | (go_simp; done) | (go_simp; rfl)); (case hp => exact (Reps.none _ _)); intro v w3 ho hb hg_ hnew_) | (at_range; refine wpList_set_range _ rfl _ rfl b n S rfl (HS.out.grown hg_ (by simp)) ?_; intro w4 cnt4 hr4 hg4 hs4) | fail)
  go_frame
  have HO4 := Aside0.mk (Kd.R_mono (ok' := fun k => k ≠ b ∧ k ≠ w3.heap.size) (Kd.R_grown (Kd.R_bound ho) hg4 (fun k hk => by simp)) (fun k hk => ⟨hk.1, Nat.ne_of_lt hk.2.2.1⟩))
  have HB4 := Aside0.mk (hb.grown hg4 hb.size (fun k hk => by cases hk))
  have HR4 := Aside0.mk hr4
  have hbb : b < w.heap.size := HS.out.lt
  have hrb : w.heap.size ≤ w3.heap.size := hg_.size
  have hbs : w3.heap.size < w4.heap.size := by omega
  obtain ⟨rb, hrbe⟩ : ∃ rb, rb = w3.heap.size := ⟨_, rfl⟩
  rw [← hrbe] at hrb hbs HR4 HO4 ⊢
  clear hrbe ho hb hg_ hnew_ hr4 hg4 hs4
  have HG4 : Aside0 (Gath l0 S []) := ⟨⟨List.nodup_nil, by simp, fun x hx hfx hn => by
    have := (HM.out x hfx).2 hx
    rw [hn] at this; cases this⟩⟩
  go_loopw [3] (fun v6 wr => ∃ (L : ByteArray → Bool) (cnt : Nat) (xs : List ByteArray), Aside0 (SetR wr b rb n S L cnt) ∧ Aside0 (Kd.R Kd.string 9 wr w.heap.size (fun k => k ≠ b ∧ k ≠ rb) v6 xs) ∧ Aside0 (Gath l0 L xs) ∧ Aside0 (Below w.heap.size w wr) ∧ rb < wr.heap.size) (fun _ wr => wr.rangeLeft b rb)
  case atStart => exact ⟨_, _, _, HR4, HO4, HG4, HB4, hbs⟩
  case round =>
    clear HR4 HO4 HG4 HB4 hbs
    obtain ⟨L, cnt, xs, HRr, HO, HG, HBr, hsz⟩ := hrel
    have hxl : xs.length ≤ l0.length := len_le_of xs l0 HG.out.nodup (fun x hx => (HG.out.mem x hx).1)
    go_wp2_with (first | (at_next; refine wpList_set_next _ rfl _ rfl b rb n S L cnt rfl HRr.out ?_ ?_) | fail)
    · intro hdone
      obtain ⟨A6, c6, hv⟩ := Kd.R_slice HO.out
      subst hv
      have hrd := Kd.R_reads' HO.out
      have hfs : impl_sortedSet.f xs = some (canonL l0) := sortedSet_mem hlen HF.out (fun x => HG.out.perm HF.out hdone x) HG.out.nodup
      go_wp2_with (first | (go_at_call 69; refine (impl_sortedSet.calls A6 c6 xs (canonL l0) _ hrd.2.2 hrd.2.1 hfs).mono ?_; rintro e w' ⟨v0, rfl, hr, hb'⟩) | fail)
      go_ret
      exact ⟨_, rfl, Kd.R_lower hr HBr.out.size, below_weaken HBr.out HBr.out.size hb'⟩
    · intro s w5 cnt5 hfs hLs hSs hr5 hlt5 hg5 hs5 hen5
      have hsl : s ∈ l0 := (HM.out s hfs).1 hSs
      have hO5 := Kd.R_grown HO.out hg5 (fun k hk => by simpa using hk.2)
      have hB5 := HBr.out.grown hg5 HBr.out.size (fun k hk => by cases hk; omega)
      have hsz5 : rb < w5.heap.size := by omega
      clear hs5
      go_wp2_with (first | ((with_reducible refine gate_builtin (b := .append) (xs := #[.tmp 12, .tmp 14]) rfl ?_); at_builtin; refine Kd.R_append Kd.string (w0 := w) w.heap.size rfl (.tmp 12) (.tmp 14) 25 9 (.string ⟨#[]⟩) 16 rfl Try.underlying25 info9 rfl (by decide) (by omega) u3 xs s [.string s] (fun k => k ≠ b ∧ k ≠ rb) (fun _ => False) rfl rfl ?aP (fun _ hk => hk.elim) ?aF hO5 hB5 ?aS ?aL ?_; (case aP => exact rfl); (case aF => exact (fun k hk => ⟨by omega, by omega⟩)); (case aS => omega); (case aL => omega); intro v1 w1 ho1 hb1 hg1 hat1) | fail)
      go_roundw
      case rel => exact ⟨_, _, _, ⟨hr5.move hg1 (fun e => (HO.out.1 _ e.symm).1 rfl) (fun e => (HO.out.1 _ e.symm).2 rfl)⟩, ⟨ho1⟩, ⟨HG.out.step hsl hLs⟩, ⟨hb1⟩, Nat.lt_of_lt_of_le hsz5 hg1.size⟩
      case measure =>
        rw [(hr5.move hg1 (fun e => (HO.out.1 _ e.symm).1 rfl) (fun e => (HO.out.1 _ e.symm).2 rfl)).left_eq, HRr.out.left_eq]
        exact hlt5
end Go.Proofs.Ytnjmhlhlmokjnaa.G
namespace Go.Proofs.Ytnjmhlhlmokjnaa.G
set_option linter.unusedVariables false
set_option linter.unusedSimpArgs false
open Go.RowKit Go.Proofs.YtnjmhlhlmokjnaaW.PrintWords Go.Proofs.YtnjmhlhlmokjnaaW.PrintLast
set_option maxHeartbeats 8000000 in
set_option maxRecDepth 100000 in
theorem impl_UnitsOk.calls (A0 : Option Addr) (c0 : Nat) (l0 : List S32) (r : Bool) (w : World) (hr0 : Kd.C k32 w A0 l0.length l0) (hc0 : l0.length ≤ c0) (h : impl_UnitsOk.f l0 = some r) :
    Calls Try.prog 14 #[.slice A0 l0.length c0] w fun e w' => e = .returned (.bool r) ∧ Below w.heap.size w w' := by
  have hu := Try.underlying32
  have HR := Aside0.mk hr0
  clear hr0 hc0
  injection h with h
  by_cases hl : 100 < l0.length
  · have hd : decide ((100 : Int) < (l0.length : Int)) = true := decide_eq_true (by omega)
    have hd2 : decide (100 < l0.length) = true := decide_eq_true (by omega)
    have hr : r = false := by rw [← h]; unfold unitsOkB; rw [decide_eq_false (by omega)]; rfl
    subst hr
    clear h hl
    go_enter Try.func14, Try.ntmps14
    go_wp2
    go_ret
    exact ⟨rfl, Below.refl _ _⟩
  · have hd : decide ((100 : Int) < (l0.length : Int)) = false := decide_eq_false (by omega)
    have hd2 : decide (100 < l0.length) = false := decide_eq_false (by omega)
    have hm : l0.length ≤ 100 := by omega
    have H : Aside0 (okFrom l0 0 l0.length = r) := ⟨by rw [← h]; unfold unitsOkB; rw [decide_eq_true hm]; rfl⟩
    clear h hl
    go_enter Try.func14, Try.ntmps14
    go_wp2
    go_loopw [10] (fun i wr => ∃ j : Nat, j ≤ l0.length ∧ i = .int .i64 j ∧ Aside0 (okFrom l0 j (l0.length - j) = r) ∧ Below w.heap.size w wr) (fun i _ => l0.length - (intOf i).toNat)
    case atStart => exact ⟨0, Nat.zero_le _, rfl, H, Below.refl _ _⟩
    case round =>
      obtain ⟨j, hj, rfl, HJ, hB⟩ := hrel
      clear H
      by_cases hlt : j < l0.length
      · have HRr := Aside0.mk (Kd.C_below HR.out hB)
        obtain ⟨ad, A1, c1, A2, c2, hA, x0, x1, x2, x3, x4, l1, g1, l2, g2⟩ := at_T32 HRr.out (j : Int) (by omega) (by omega)
        have G1 := Aside0.mk g1
        have G2 := Aside0.mk g2
        have L1 := Aside0.mk l1
        have L2 := Aside0.mk l2
        clear g1 g2 l1 l2
        cases hA
        simp only [Int.toNat_natCast] at x0 x1 x2 x3 x4
        obtain ⟨u, hu0⟩ : ∃ u, u = rd_T32 l0 (j : Int) := ⟨_, rfl⟩
        have HU := Aside0.mk hu0
        rw [← hu0] at x0 x1 x2 x3 x4 G1 G2 L1 L2
        clear hu0
        go_wp2_with fail
        have hBW := hB.alloc (by simpa using hB.size) (.cells #[Value.string u.f0, Value.slice A1 u.f1.length c1, Value.slice A2 u.f2.length c2, Value.string u.f3, Value.bool u.f4] 32)
        by_cases hj0 : j = 0
        · have h0a : decide ((0 : Int) < (j : Int)) = false := decide_eq_false (by omega)
          have h0b : decide (0 < j) = false := decide_eq_false (by omega)
          have HZ := Aside0.mk hj0
          clear hj0
          cases hN : nameOkB u.f0 with
          | false =>
            have N1 := nameOk_c u.f0 false hN
            have HS := Aside0.mk (step_name HU.out hN)
            go_quiet ((first | (go_at_call 49; exact Calls.quiet_of (N1 _))))
            go_wp2_with fail
            go_ret
            exact ⟨by rw [ok_stop HJ.out hlt HS.out]; rfl, pw_below_drewN hBW _⟩
          | true =>
            have N1 := nameOk_c u.f0 true hN
            cases hC1 : decide (u.f1.length ≤ 20) with
            | false =>
              have he1 : decide ((20 : Int) < (u.f1.length : Int)) = true := decide_eq_true (by first | (have := of_decide_eq_false hC1; omega) | (have := of_decide_eq_true hC1; omega))
              have hf1 : decide (20 < u.f1.length) = true := decide_eq_true (by first | (have := of_decide_eq_false hC1; omega) | (have := of_decide_eq_true hC1; omega))
              have HS := Aside0.mk (step_len1 HU.out hC1)
              go_quiet ((first | (go_at_call 49; exact Calls.quiet_of (N1 _))))
              go_wp2_with fail
              go_ret
              exact ⟨by rw [ok_stop HJ.out hlt HS.out]; rfl, pw_below_drewN hBW _⟩
            | true =>
              have he1 : decide ((20 : Int) < (u.f1.length : Int)) = false := decide_eq_false (by first | (have := of_decide_eq_false hC1; omega) | (have := of_decide_eq_true hC1; omega))
              have hf1 : decide (20 < u.f1.length) = false := decide_eq_false (by first | (have := of_decide_eq_false hC1; omega) | (have := of_decide_eq_true hC1; omega))
              cases hC2 : decide (u.f2.length ≤ 20) with
              | false =>
                have he2 : decide ((20 : Int) < (u.f2.length : Int)) = true := decide_eq_true (by first | (have := of_decide_eq_false hC2; omega) | (have := of_decide_eq_true hC2; omega))
                have hf2 : decide (20 < u.f2.length) = true := decide_eq_true (by first | (have := of_decide_eq_false hC2; omega) | (have := of_decide_eq_true hC2; omega))
                have HS := Aside0.mk (step_len2 HU.out hC2)
                go_quiet ((first | (go_at_call 49; exact Calls.quiet_of (N1 _))))
                go_wp2_with fail
                go_ret
                exact ⟨by rw [ok_stop HJ.out hlt HS.out]; rfl, pw_below_drewN hBW _⟩
              | true =>
                have he2 : decide ((20 : Int) < (u.f2.length : Int)) = false := decide_eq_false (by first | (have := of_decide_eq_false hC2; omega) | (have := of_decide_eq_true hC2; omega))
                have hf2 : decide (20 < u.f2.length) = false := decide_eq_false (by first | (have := of_decide_eq_false hC2; omega) | (have := of_decide_eq_true hC2; omega))
                cases hU1 : upB u.f1 with
                | false =>
                  have HS := Aside0.mk (step_up1 HU.out hU1)
                  go_quiet ((first | (go_at_call 49; exact Calls.quiet_of (N1 _)) | (go_at_call_of 50 (Value.slice A1 u.f1.length c1); exact Calls.quiet_of (up_c A1 c1 u.f1 _ hU1 _ (Kd.C_drewN (Kd.C_alloc G1.out _) _) L1.out))))
                  go_wp2_with fail
                  go_ret
                  exact ⟨by rw [ok_stop HJ.out hlt HS.out]; rfl, pw_below_drewN hBW _⟩
                | true =>
                  cases hU2 : upB u.f2 with
                  | false =>
                    have HS := Aside0.mk (step_up2 HU.out hU2)
                    go_quiet ((first | (go_at_call 49; exact Calls.quiet_of (N1 _)) | (go_at_call_of 50 (Value.slice A1 u.f1.length c1); exact Calls.quiet_of (up_c A1 c1 u.f1 _ hU1 _ (Kd.C_drewN (Kd.C_alloc G1.out _) _) L1.out)) | (go_at_call_of 50 (Value.slice A2 u.f2.length c2); exact Calls.quiet_of (up_c A2 c2 u.f2 _ hU2 _ (Kd.C_drewN (Kd.C_alloc G2.out _) _) L2.out))))
                    go_wp2_with fail
                    go_ret
                    exact ⟨by rw [ok_stop HJ.out hlt HS.out]; rfl, pw_below_drewN hBW _⟩
                  | true =>
                    cases hE : decide (u.f3.size ≤ 4000) with
                    | false =>
                      have hze : decide ((4000 : Int) < (u.f3.size : Int)) = true := decide_eq_true (by first | (have := of_decide_eq_false hE; omega) | (have := of_decide_eq_true hE; omega))
                      have hzf : decide (4000 < u.f3.size) = true := decide_eq_true (by first | (have := of_decide_eq_false hE; omega) | (have := of_decide_eq_true hE; omega))
                      have HS := Aside0.mk (step_size HU.out hE)
                      go_quiet ((first | (go_at_call 49; exact Calls.quiet_of (N1 _)) | (go_at_call_of 50 (Value.slice A1 u.f1.length c1); exact Calls.quiet_of (up_c A1 c1 u.f1 _ hU1 _ (Kd.C_drewN (Kd.C_alloc G1.out _) _) L1.out)) | (go_at_call_of 50 (Value.slice A2 u.f2.length c2); exact Calls.quiet_of (up_c A2 c2 u.f2 _ hU2 _ (Kd.C_drewN (Kd.C_alloc G2.out _) _) L2.out))))
                      go_wp2_with fail
                      go_ret
                      exact ⟨by rw [ok_stop HJ.out hlt HS.out]; rfl, pw_below_drewN hBW _⟩
                    | true =>
                      have hze : decide ((4000 : Int) < (u.f3.size : Int)) = false := decide_eq_false (by first | (have := of_decide_eq_false hE; omega) | (have := of_decide_eq_true hE; omega))
                      have hzf : decide (4000 < u.f3.size) = false := decide_eq_false (by first | (have := of_decide_eq_false hE; omega) | (have := of_decide_eq_true hE; omega))
                      have HS := Aside0.mk (step_true0 HU.out hN hC1 hC2 hU1 hU2 hE HZ.out)
                      go_quiet ((first | (go_at_call 49; exact Calls.quiet_of (N1 _)) | (go_at_call_of 50 (Value.slice A1 u.f1.length c1); exact Calls.quiet_of (up_c A1 c1 u.f1 _ hU1 _ (Kd.C_drewN (Kd.C_alloc G1.out _) _) L1.out)) | (go_at_call_of 50 (Value.slice A2 u.f2.length c2); exact Calls.quiet_of (up_c A2 c2 u.f2 _ hU2 _ (Kd.C_drewN (Kd.C_alloc G2.out _) _) L2.out))))
                      go_wp2_with fail
                      go_roundw
                      case rel => exact ⟨j + 1, by omega, by go_num, ⟨ok_next HJ.out hlt HS.out⟩, pw_below_drewN hBW _⟩
                      case measure => simp [intOf]; omega
        · have h0a : decide ((0 : Int) < (j : Int)) = true := decide_eq_true (by omega)
          have h0b : decide (0 < j) = true := decide_eq_true (by omega)
          obtain ⟨q, hq⟩ : ∃ q : Nat, j = q + 1 := ⟨j - 1, by omega⟩
          have hq1 : q < l0.length := by omega
          have hw : IntKind.i64.wrap ((j : Int) - 1) = (q : Int) := by rw [IntWalk.i64_in _ (by omega)]; omega
          have HP := Aside0.mk hq
          clear hq hj0
          obtain ⟨ad2, B1, e1, B2, e2, hA2, y0, _, _, _, _, _, _, _, _⟩ := at_T32 HRr.out (q : Int) (by omega) (by omega)
          obtain rfl : ad = ad2 := by injection hA2
          simp only [Int.toNat_natCast] at y0
          obtain ⟨v, hv0⟩ : ∃ v, v = rd_T32 l0 (q : Int) := ⟨_, rfl⟩
          have HV := Aside0.mk hv0
          rw [← hv0] at y0
          clear hv0
          have y1 := pw_cell_below (below_alloc (Below.refl _ _) (.cells #[Value.string u.f0, Value.slice A1 u.f1.length c1, Value.slice A2 u.f2.length c2, Value.string u.f3, Value.bool u.f4] 32)) y0
          cases hN : nameOkB u.f0 with
          | false =>
            have N1 := nameOk_c u.f0 false hN
            have HS := Aside0.mk (step_name HU.out hN)
            go_quiet ((first | (go_at_call 49; exact Calls.quiet_of (N1 _))))
            go_wp2_with fail
            go_ret
            exact ⟨by rw [ok_stop HJ.out hlt HS.out]; rfl, pw_below_drewN hBW _⟩
          | true =>
            have N1 := nameOk_c u.f0 true hN
            cases hL : Op.bytesLess v.f0.toList u.f0.toList with
            | false =>
              have HS := Aside0.mk (step_less HU.out hL HP.out HV.out)
              go_quiet ((first | (go_at_call 49; exact Calls.quiet_of (N1 _))))
              go_wp2_with fail
              go_ret
              exact ⟨by rw [ok_stop HJ.out hlt HS.out]; rfl, pw_below_drewN hBW _⟩
            | true =>
              cases hC1 : decide (u.f1.length ≤ 20) with
              | false =>
                have he1 : decide ((20 : Int) < (u.f1.length : Int)) = true := decide_eq_true (by first | (have := of_decide_eq_false hC1; omega) | (have := of_decide_eq_true hC1; omega))
                have hf1 : decide (20 < u.f1.length) = true := decide_eq_true (by first | (have := of_decide_eq_false hC1; omega) | (have := of_decide_eq_true hC1; omega))
                have HS := Aside0.mk (step_len1 HU.out hC1)
                go_quiet ((first | (go_at_call 49; exact Calls.quiet_of (N1 _))))
                go_wp2_with fail
                go_ret
                exact ⟨by rw [ok_stop HJ.out hlt HS.out]; rfl, pw_below_drewN hBW _⟩
              | true =>
                have he1 : decide ((20 : Int) < (u.f1.length : Int)) = false := decide_eq_false (by first | (have := of_decide_eq_false hC1; omega) | (have := of_decide_eq_true hC1; omega))
                have hf1 : decide (20 < u.f1.length) = false := decide_eq_false (by first | (have := of_decide_eq_false hC1; omega) | (have := of_decide_eq_true hC1; omega))
                cases hC2 : decide (u.f2.length ≤ 20) with
                | false =>
                  have he2 : decide ((20 : Int) < (u.f2.length : Int)) = true := decide_eq_true (by first | (have := of_decide_eq_false hC2; omega) | (have := of_decide_eq_true hC2; omega))
                  have hf2 : decide (20 < u.f2.length) = true := decide_eq_true (by first | (have := of_decide_eq_false hC2; omega) | (have := of_decide_eq_true hC2; omega))
                  have HS := Aside0.mk (step_len2 HU.out hC2)
                  go_quiet ((first | (go_at_call 49; exact Calls.quiet_of (N1 _))))
                  go_wp2_with fail
                  go_ret
                  exact ⟨by rw [ok_stop HJ.out hlt HS.out]; rfl, pw_below_drewN hBW _⟩
                | true =>
                  have he2 : decide ((20 : Int) < (u.f2.length : Int)) = false := decide_eq_false (by first | (have := of_decide_eq_false hC2; omega) | (have := of_decide_eq_true hC2; omega))
                  have hf2 : decide (20 < u.f2.length) = false := decide_eq_false (by first | (have := of_decide_eq_false hC2; omega) | (have := of_decide_eq_true hC2; omega))
                  cases hU1 : upB u.f1 with
                  | false =>
                    have HS := Aside0.mk (step_up1 HU.out hU1)
                    go_quiet ((first | (go_at_call 49; exact Calls.quiet_of (N1 _)) | (go_at_call_of 50 (Value.slice A1 u.f1.length c1); exact Calls.quiet_of (up_c A1 c1 u.f1 _ hU1 _ (Kd.C_drewN (Kd.C_alloc G1.out _) _) L1.out))))
                    go_wp2_with fail
                    go_ret
                    exact ⟨by rw [ok_stop HJ.out hlt HS.out]; rfl, pw_below_drewN hBW _⟩
                  | true =>
                    cases hU2 : upB u.f2 with
                    | false =>
                      have HS := Aside0.mk (step_up2 HU.out hU2)
                      go_quiet ((first | (go_at_call 49; exact Calls.quiet_of (N1 _)) | (go_at_call_of 50 (Value.slice A1 u.f1.length c1); exact Calls.quiet_of (up_c A1 c1 u.f1 _ hU1 _ (Kd.C_drewN (Kd.C_alloc G1.out _) _) L1.out)) | (go_at_call_of 50 (Value.slice A2 u.f2.length c2); exact Calls.quiet_of (up_c A2 c2 u.f2 _ hU2 _ (Kd.C_drewN (Kd.C_alloc G2.out _) _) L2.out))))
                      go_wp2_with fail
                      go_ret
                      exact ⟨by rw [ok_stop HJ.out hlt HS.out]; rfl, pw_below_drewN hBW _⟩
                    | true =>
                      cases hE : decide (u.f3.size ≤ 4000) with
                      | false =>
                        have hze : decide ((4000 : Int) < (u.f3.size : Int)) = true := decide_eq_true (by first | (have := of_decide_eq_false hE; omega) | (have := of_decide_eq_true hE; omega))
                        have hzf : decide (4000 < u.f3.size) = true := decide_eq_true (by first | (have := of_decide_eq_false hE; omega) | (have := of_decide_eq_true hE; omega))
                        have HS := Aside0.mk (step_size HU.out hE)
                        go_quiet ((first | (go_at_call 49; exact Calls.quiet_of (N1 _)) | (go_at_call_of 50 (Value.slice A1 u.f1.length c1); exact Calls.quiet_of (up_c A1 c1 u.f1 _ hU1 _ (Kd.C_drewN (Kd.C_alloc G1.out _) _) L1.out)) | (go_at_call_of 50 (Value.slice A2 u.f2.length c2); exact Calls.quiet_of (up_c A2 c2 u.f2 _ hU2 _ (Kd.C_drewN (Kd.C_alloc G2.out _) _) L2.out))))
                        go_wp2_with fail
                        go_ret
                        exact ⟨by rw [ok_stop HJ.out hlt HS.out]; rfl, pw_below_drewN hBW _⟩
                      | true =>
                        have hze : decide ((4000 : Int) < (u.f3.size : Int)) = false := decide_eq_false (by first | (have := of_decide_eq_false hE; omega) | (have := of_decide_eq_true hE; omega))
                        have hzf : decide (4000 < u.f3.size) = false := decide_eq_false (by first | (have := of_decide_eq_false hE; omega) | (have := of_decide_eq_true hE; omega))
                        have HS := Aside0.mk (step_true HU.out hN hL HP.out HV.out hC1 hC2 hU1 hU2 hE)
                        go_quiet ((first | (go_at_call 49; exact Calls.quiet_of (N1 _)) | (go_at_call_of 50 (Value.slice A1 u.f1.length c1); exact Calls.quiet_of (up_c A1 c1 u.f1 _ hU1 _ (Kd.C_drewN (Kd.C_alloc G1.out _) _) L1.out)) | (go_at_call_of 50 (Value.slice A2 u.f2.length c2); exact Calls.quiet_of (up_c A2 c2 u.f2 _ hU2 _ (Kd.C_drewN (Kd.C_alloc G2.out _) _) L2.out))))
                        go_wp2_with fail
                        go_roundw
                        case rel => exact ⟨j + 1, by omega, by go_num, ⟨ok_next HJ.out hlt HS.out⟩, pw_below_drewN hBW _⟩
                        case measure => simp [intOf]; omega
      · have hr : r = true := by
          have := HJ.out
          rw [show l0.length - j = 0 by omega] at this
          exact this.symm
        subst hr
        go_wp2
        go_ret
        exact ⟨rfl, hB⟩
end Go.Proofs.Ytnjmhlhlmokjnaa.G
namespace Go.Proofs.Ytnjmhlhlmokjnaa.G
set_option linter.unusedVariables false
set_option linter.unusedSimpArgs false
open Go.RowKit Go.Proofs.YtnjmhlhlmokjnaaW.PrintWords Go.Proofs.YtnjmhlhlmokjnaaW.PrintLast
set_option maxHeartbeats 8000000 in
set_option maxRecDepth 100000 in
theorem spec_UnitsOk.calls (A0 : Option Addr) (c0 : Nat) (l0 : List S32) (r : Bool) (w : World) (hr0 : Kd.C k32 w A0 l0.length l0) (hc0 : l0.length ≤ c0) (h : spec_UnitsOk.f l0 = some r) :
    Calls Try.prog 13 #[.slice A0 l0.length c0] w fun e w' => e = .returned (.bool r) ∧ Below w.heap.size w w' := by
  have hu := Try.underlying32
  have HR := Aside0.mk hr0
  clear hr0 hc0
  injection h with h
  by_cases hl : 100 < l0.length
  · have hd : decide ((100 : Int) < (l0.length : Int)) = true := decide_eq_true (by omega)
    have hd2 : decide (100 < l0.length) = true := decide_eq_true (by omega)
    have hr : r = false := by rw [← h]; unfold unitsOkB; rw [decide_eq_false (by omega)]; rfl
    subst hr
    clear h hl
    go_enter Try.func13, Try.ntmps13
    go_wp2
    go_ret
    exact ⟨rfl, Below.refl _ _⟩
  · have hd : decide ((100 : Int) < (l0.length : Int)) = false := decide_eq_false (by omega)
    have hd2 : decide (100 < l0.length) = false := decide_eq_false (by omega)
    have hm : l0.length ≤ 100 := by omega
    have H : Aside0 (okFrom l0 0 l0.length = r) := ⟨by rw [← h]; unfold unitsOkB; rw [decide_eq_true hm]; rfl⟩
    clear h hl
    go_enter Try.func13, Try.ntmps13
    go_wp2
    go_loopw [3] (fun i wr => ∃ j : Nat, j ≤ l0.length ∧ i = .int .i64 j ∧ Aside0 (okFrom l0 j (l0.length - j) = r) ∧ Below w.heap.size w wr) (fun i _ => l0.length - (intOf i).toNat)
    case atStart => exact ⟨0, Nat.zero_le _, rfl, H, Below.refl _ _⟩
    case round =>
      obtain ⟨j, hj, rfl, HJ, hB⟩ := hrel
      clear H
      by_cases hlt : j < l0.length
      · have HRr := Aside0.mk (Kd.C_below HR.out hB)
        obtain ⟨ad, A1, c1, A2, c2, hA, x0, x1, x2, x3, x4, l1, g1, l2, g2⟩ := at_T32 HRr.out (j : Int) (by omega) (by omega)
        have G1 := Aside0.mk g1
        have G2 := Aside0.mk g2
        have L1 := Aside0.mk l1
        have L2 := Aside0.mk l2
        clear g1 g2 l1 l2
        cases hA
        simp only [Int.toNat_natCast] at x0 x1 x2 x3 x4
        obtain ⟨u, hu0⟩ : ∃ u, u = rd_T32 l0 (j : Int) := ⟨_, rfl⟩
        have HU := Aside0.mk hu0
        rw [← hu0] at x0 x1 x2 x3 x4 G1 G2 L1 L2
        clear hu0
        go_wp2_with fail
        have hBW := hB.alloc (by simpa using hB.size) (.cells #[Value.string u.f0, Value.slice A1 u.f1.length c1, Value.slice A2 u.f2.length c2, Value.string u.f3, Value.bool u.f4] 32)
        by_cases hj0 : j = 0
        · have h0a : decide ((0 : Int) < (j : Int)) = false := decide_eq_false (by omega)
          have h0b : decide (0 < j) = false := decide_eq_false (by omega)
          have HZ := Aside0.mk hj0
          clear hj0
          cases hN : nameOkB u.f0 with
          | false =>
            have N1 := specNameOk_c u.f0 false hN
            have HS := Aside0.mk (step_name HU.out hN)
            go_quiet ((first | (go_at_call 46; exact Calls.quiet_of (N1 _))))
            go_wp2_with fail
            go_ret
            exact ⟨by rw [ok_stop HJ.out hlt HS.out]; rfl, pw_below_drewN hBW _⟩
          | true =>
            have N1 := specNameOk_c u.f0 true hN
            cases hS1 : (ascB u.f1 && decide (u.f1.length ≤ 20)) with
            | false =>
              have HS := Aside0.mk (step_asc1 HU.out hS1)
              go_quiet ((first | (go_at_call 46; exact Calls.quiet_of (N1 _)) | (go_at_call_of 47 (Value.slice A1 u.f1.length c1); exact Calls.quiet_of (asc_c A1 c1 u.f1 _ hS1 _ (Kd.C_drewN (Kd.C_alloc G1.out _) _) L1.out))))
              go_wp2_with fail
              go_ret
              exact ⟨by rw [ok_stop HJ.out hlt HS.out]; rfl, pw_below_drewN hBW _⟩
            | true =>
              cases hS2 : (ascB u.f2 && decide (u.f2.length ≤ 20)) with
              | false =>
                have HS := Aside0.mk (step_asc2 HU.out hS2)
                go_quiet ((first | (go_at_call 46; exact Calls.quiet_of (N1 _)) | (go_at_call_of 47 (Value.slice A1 u.f1.length c1); exact Calls.quiet_of (asc_c A1 c1 u.f1 _ hS1 _ (Kd.C_drewN (Kd.C_alloc G1.out _) _) L1.out)) | (go_at_call_of 47 (Value.slice A2 u.f2.length c2); exact Calls.quiet_of (asc_c A2 c2 u.f2 _ hS2 _ (Kd.C_drewN (Kd.C_alloc G2.out _) _) L2.out))))
                go_wp2_with fail
                go_ret
                exact ⟨by rw [ok_stop HJ.out hlt HS.out]; rfl, pw_below_drewN hBW _⟩
              | true =>
                cases hU1 : (u.f1.all nameOkB && decide (u.f1.length ≤ 2000)) with
                | false =>
                  have HS := Aside0.mk (step_all1 HU.out hU1 hS1)
                  go_quiet ((first | (go_at_call 46; exact Calls.quiet_of (N1 _)) | (go_at_call_of 47 (Value.slice A1 u.f1.length c1); exact Calls.quiet_of (asc_c A1 c1 u.f1 _ hS1 _ (Kd.C_drewN (Kd.C_alloc G1.out _) _) L1.out)) | (go_at_call_of 47 (Value.slice A2 u.f2.length c2); exact Calls.quiet_of (asc_c A2 c2 u.f2 _ hS2 _ (Kd.C_drewN (Kd.C_alloc G2.out _) _) L2.out)) | (go_at_call_of 48 (Value.slice A1 u.f1.length c1); exact Calls.quiet_of (all_c A1 c1 u.f1 _ hU1 _ (Kd.C_drewN (Kd.C_alloc G1.out _) _) L1.out))))
                  go_wp2_with fail
                  go_ret
                  exact ⟨by rw [ok_stop HJ.out hlt HS.out]; rfl, pw_below_drewN hBW _⟩
                | true =>
                  cases hU2 : (u.f2.all nameOkB && decide (u.f2.length ≤ 2000)) with
                  | false =>
                    have HS := Aside0.mk (step_all2 HU.out hU2 hS2)
                    go_quiet ((first | (go_at_call 46; exact Calls.quiet_of (N1 _)) | (go_at_call_of 47 (Value.slice A1 u.f1.length c1); exact Calls.quiet_of (asc_c A1 c1 u.f1 _ hS1 _ (Kd.C_drewN (Kd.C_alloc G1.out _) _) L1.out)) | (go_at_call_of 47 (Value.slice A2 u.f2.length c2); exact Calls.quiet_of (asc_c A2 c2 u.f2 _ hS2 _ (Kd.C_drewN (Kd.C_alloc G2.out _) _) L2.out)) | (go_at_call_of 48 (Value.slice A1 u.f1.length c1); exact Calls.quiet_of (all_c A1 c1 u.f1 _ hU1 _ (Kd.C_drewN (Kd.C_alloc G1.out _) _) L1.out)) | (go_at_call_of 48 (Value.slice A2 u.f2.length c2); exact Calls.quiet_of (all_c A2 c2 u.f2 _ hU2 _ (Kd.C_drewN (Kd.C_alloc G2.out _) _) L2.out))))
                    go_wp2_with fail
                    go_ret
                    exact ⟨by rw [ok_stop HJ.out hlt HS.out]; rfl, pw_below_drewN hBW _⟩
                  | true =>
                    cases hE : decide (u.f3.size ≤ 4000) with
                    | false =>
                      have hze : decide ((4000 : Int) < (u.f3.size : Int)) = true := decide_eq_true (by first | (have := of_decide_eq_false hE; omega) | (have := of_decide_eq_true hE; omega))
                      have hzf : decide (4000 < u.f3.size) = true := decide_eq_true (by first | (have := of_decide_eq_false hE; omega) | (have := of_decide_eq_true hE; omega))
                      have HS := Aside0.mk (step_size HU.out hE)
                      go_quiet ((first | (go_at_call 46; exact Calls.quiet_of (N1 _)) | (go_at_call_of 47 (Value.slice A1 u.f1.length c1); exact Calls.quiet_of (asc_c A1 c1 u.f1 _ hS1 _ (Kd.C_drewN (Kd.C_alloc G1.out _) _) L1.out)) | (go_at_call_of 47 (Value.slice A2 u.f2.length c2); exact Calls.quiet_of (asc_c A2 c2 u.f2 _ hS2 _ (Kd.C_drewN (Kd.C_alloc G2.out _) _) L2.out)) | (go_at_call_of 48 (Value.slice A1 u.f1.length c1); exact Calls.quiet_of (all_c A1 c1 u.f1 _ hU1 _ (Kd.C_drewN (Kd.C_alloc G1.out _) _) L1.out)) | (go_at_call_of 48 (Value.slice A2 u.f2.length c2); exact Calls.quiet_of (all_c A2 c2 u.f2 _ hU2 _ (Kd.C_drewN (Kd.C_alloc G2.out _) _) L2.out))))
                      go_wp2_with fail
                      go_ret
                      exact ⟨by rw [ok_stop HJ.out hlt HS.out]; rfl, pw_below_drewN hBW _⟩
                    | true =>
                      have hze : decide ((4000 : Int) < (u.f3.size : Int)) = false := decide_eq_false (by first | (have := of_decide_eq_false hE; omega) | (have := of_decide_eq_true hE; omega))
                      have hzf : decide (4000 < u.f3.size) = false := decide_eq_false (by first | (have := of_decide_eq_false hE; omega) | (have := of_decide_eq_true hE; omega))
                      have HS := Aside0.mk (step_trueS0 HU.out hN hS1 hS2 hU1 hU2 hE HZ.out)
                      go_quiet ((first | (go_at_call 46; exact Calls.quiet_of (N1 _)) | (go_at_call_of 47 (Value.slice A1 u.f1.length c1); exact Calls.quiet_of (asc_c A1 c1 u.f1 _ hS1 _ (Kd.C_drewN (Kd.C_alloc G1.out _) _) L1.out)) | (go_at_call_of 47 (Value.slice A2 u.f2.length c2); exact Calls.quiet_of (asc_c A2 c2 u.f2 _ hS2 _ (Kd.C_drewN (Kd.C_alloc G2.out _) _) L2.out)) | (go_at_call_of 48 (Value.slice A1 u.f1.length c1); exact Calls.quiet_of (all_c A1 c1 u.f1 _ hU1 _ (Kd.C_drewN (Kd.C_alloc G1.out _) _) L1.out)) | (go_at_call_of 48 (Value.slice A2 u.f2.length c2); exact Calls.quiet_of (all_c A2 c2 u.f2 _ hU2 _ (Kd.C_drewN (Kd.C_alloc G2.out _) _) L2.out))))
                      go_wp2_with fail
                      go_roundw
                      case rel => exact ⟨j + 1, by omega, by go_num, ⟨ok_next HJ.out hlt HS.out⟩, pw_below_drewN hBW _⟩
                      case measure => simp [intOf]; omega
        · have h0a : decide ((0 : Int) < (j : Int)) = true := decide_eq_true (by omega)
          have h0b : decide (0 < j) = true := decide_eq_true (by omega)
          obtain ⟨q, hq⟩ : ∃ q : Nat, j = q + 1 := ⟨j - 1, by omega⟩
          have hq1 : q < l0.length := by omega
          have hw : IntKind.i64.wrap ((j : Int) - 1) = (q : Int) := by rw [IntWalk.i64_in _ (by omega)]; omega
          have HP := Aside0.mk hq
          clear hq hj0
          obtain ⟨ad2, B1, e1, B2, e2, hA2, y0, _, _, _, _, _, _, _, _⟩ := at_T32 HRr.out (q : Int) (by omega) (by omega)
          obtain rfl : ad = ad2 := by injection hA2
          simp only [Int.toNat_natCast] at y0
          obtain ⟨v, hv0⟩ : ∃ v, v = rd_T32 l0 (q : Int) := ⟨_, rfl⟩
          have HV := Aside0.mk hv0
          rw [← hv0] at y0
          clear hv0
          have y1 := pw_cell_below (below_alloc (Below.refl _ _) (.cells #[Value.string u.f0, Value.slice A1 u.f1.length c1, Value.slice A2 u.f2.length c2, Value.string u.f3, Value.bool u.f4] 32)) y0
          cases hN : nameOkB u.f0 with
          | false =>
            have N1 := specNameOk_c u.f0 false hN
            have HS := Aside0.mk (step_name HU.out hN)
            go_quiet ((first | (go_at_call 46; exact Calls.quiet_of (N1 _))))
            go_wp2_with fail
            go_ret
            exact ⟨by rw [ok_stop HJ.out hlt HS.out]; rfl, pw_below_drewN hBW _⟩
          | true =>
            have N1 := specNameOk_c u.f0 true hN
            cases hL : Op.bytesLess v.f0.toList u.f0.toList with
            | false =>
              have HS := Aside0.mk (step_less HU.out hL HP.out HV.out)
              go_quiet ((first | (go_at_call 46; exact Calls.quiet_of (N1 _))))
              go_wp2_with fail
              go_ret
              exact ⟨by rw [ok_stop HJ.out hlt HS.out]; rfl, pw_below_drewN hBW _⟩
            | true =>
              cases hS1 : (ascB u.f1 && decide (u.f1.length ≤ 20)) with
              | false =>
                have HS := Aside0.mk (step_asc1 HU.out hS1)
                go_quiet ((first | (go_at_call 46; exact Calls.quiet_of (N1 _)) | (go_at_call_of 47 (Value.slice A1 u.f1.length c1); exact Calls.quiet_of (asc_c A1 c1 u.f1 _ hS1 _ (Kd.C_drewN (Kd.C_alloc G1.out _) _) L1.out))))
                go_wp2_with fail
                go_ret
                exact ⟨by rw [ok_stop HJ.out hlt HS.out]; rfl, pw_below_drewN hBW _⟩
              | true =>
                cases hS2 : (ascB u.f2 && decide (u.f2.length ≤ 20)) with
                | false =>
                  have HS := Aside0.mk (step_asc2 HU.out hS2)
                  go_quiet ((first | (go_at_call 46; exact Calls.quiet_of (N1 _)) | (go_at_call_of 47 (Value.slice A1 u.f1.length c1); exact Calls.quiet_of (asc_c A1 c1 u.f1 _ hS1 _ (Kd.C_drewN (Kd.C_alloc G1.out _) _) L1.out)) | (go_at_call_of 47 (Value.slice A2 u.f2.length c2); exact Calls.quiet_of (asc_c A2 c2 u.f2 _ hS2 _ (Kd.C_drewN (Kd.C_alloc G2.out _) _) L2.out))))
                  go_wp2_with fail
                  go_ret
                  exact ⟨by rw [ok_stop HJ.out hlt HS.out]; rfl, pw_below_drewN hBW _⟩
                | true =>
                  cases hU1 : (u.f1.all nameOkB && decide (u.f1.length ≤ 2000)) with
                  | false =>
                    have HS := Aside0.mk (step_all1 HU.out hU1 hS1)
                    go_quiet ((first | (go_at_call 46; exact Calls.quiet_of (N1 _)) | (go_at_call_of 47 (Value.slice A1 u.f1.length c1); exact Calls.quiet_of (asc_c A1 c1 u.f1 _ hS1 _ (Kd.C_drewN (Kd.C_alloc G1.out _) _) L1.out)) | (go_at_call_of 47 (Value.slice A2 u.f2.length c2); exact Calls.quiet_of (asc_c A2 c2 u.f2 _ hS2 _ (Kd.C_drewN (Kd.C_alloc G2.out _) _) L2.out)) | (go_at_call_of 48 (Value.slice A1 u.f1.length c1); exact Calls.quiet_of (all_c A1 c1 u.f1 _ hU1 _ (Kd.C_drewN (Kd.C_alloc G1.out _) _) L1.out))))
                    go_wp2_with fail
                    go_ret
                    exact ⟨by rw [ok_stop HJ.out hlt HS.out]; rfl, pw_below_drewN hBW _⟩
                  | true =>
                    cases hU2 : (u.f2.all nameOkB && decide (u.f2.length ≤ 2000)) with
                    | false =>
                      have HS := Aside0.mk (step_all2 HU.out hU2 hS2)
                      go_quiet ((first | (go_at_call 46; exact Calls.quiet_of (N1 _)) | (go_at_call_of 47 (Value.slice A1 u.f1.length c1); exact Calls.quiet_of (asc_c A1 c1 u.f1 _ hS1 _ (Kd.C_drewN (Kd.C_alloc G1.out _) _) L1.out)) | (go_at_call_of 47 (Value.slice A2 u.f2.length c2); exact Calls.quiet_of (asc_c A2 c2 u.f2 _ hS2 _ (Kd.C_drewN (Kd.C_alloc G2.out _) _) L2.out)) | (go_at_call_of 48 (Value.slice A1 u.f1.length c1); exact Calls.quiet_of (all_c A1 c1 u.f1 _ hU1 _ (Kd.C_drewN (Kd.C_alloc G1.out _) _) L1.out)) | (go_at_call_of 48 (Value.slice A2 u.f2.length c2); exact Calls.quiet_of (all_c A2 c2 u.f2 _ hU2 _ (Kd.C_drewN (Kd.C_alloc G2.out _) _) L2.out))))
                      go_wp2_with fail
                      go_ret
                      exact ⟨by rw [ok_stop HJ.out hlt HS.out]; rfl, pw_below_drewN hBW _⟩
                    | true =>
                      cases hE : decide (u.f3.size ≤ 4000) with
                      | false =>
                        have hze : decide ((4000 : Int) < (u.f3.size : Int)) = true := decide_eq_true (by first | (have := of_decide_eq_false hE; omega) | (have := of_decide_eq_true hE; omega))
                        have hzf : decide (4000 < u.f3.size) = true := decide_eq_true (by first | (have := of_decide_eq_false hE; omega) | (have := of_decide_eq_true hE; omega))
                        have HS := Aside0.mk (step_size HU.out hE)
                        go_quiet ((first | (go_at_call 46; exact Calls.quiet_of (N1 _)) | (go_at_call_of 47 (Value.slice A1 u.f1.length c1); exact Calls.quiet_of (asc_c A1 c1 u.f1 _ hS1 _ (Kd.C_drewN (Kd.C_alloc G1.out _) _) L1.out)) | (go_at_call_of 47 (Value.slice A2 u.f2.length c2); exact Calls.quiet_of (asc_c A2 c2 u.f2 _ hS2 _ (Kd.C_drewN (Kd.C_alloc G2.out _) _) L2.out)) | (go_at_call_of 48 (Value.slice A1 u.f1.length c1); exact Calls.quiet_of (all_c A1 c1 u.f1 _ hU1 _ (Kd.C_drewN (Kd.C_alloc G1.out _) _) L1.out)) | (go_at_call_of 48 (Value.slice A2 u.f2.length c2); exact Calls.quiet_of (all_c A2 c2 u.f2 _ hU2 _ (Kd.C_drewN (Kd.C_alloc G2.out _) _) L2.out))))
                        go_wp2_with fail
                        go_ret
                        exact ⟨by rw [ok_stop HJ.out hlt HS.out]; rfl, pw_below_drewN hBW _⟩
                      | true =>
                        have hze : decide ((4000 : Int) < (u.f3.size : Int)) = false := decide_eq_false (by first | (have := of_decide_eq_false hE; omega) | (have := of_decide_eq_true hE; omega))
                        have hzf : decide (4000 < u.f3.size) = false := decide_eq_false (by first | (have := of_decide_eq_false hE; omega) | (have := of_decide_eq_true hE; omega))
                        have HS := Aside0.mk (step_trueS HU.out hN hL HP.out HV.out hS1 hS2 hU1 hU2 hE)
                        go_quiet ((first | (go_at_call 46; exact Calls.quiet_of (N1 _)) | (go_at_call_of 47 (Value.slice A1 u.f1.length c1); exact Calls.quiet_of (asc_c A1 c1 u.f1 _ hS1 _ (Kd.C_drewN (Kd.C_alloc G1.out _) _) L1.out)) | (go_at_call_of 47 (Value.slice A2 u.f2.length c2); exact Calls.quiet_of (asc_c A2 c2 u.f2 _ hS2 _ (Kd.C_drewN (Kd.C_alloc G2.out _) _) L2.out)) | (go_at_call_of 48 (Value.slice A1 u.f1.length c1); exact Calls.quiet_of (all_c A1 c1 u.f1 _ hU1 _ (Kd.C_drewN (Kd.C_alloc G1.out _) _) L1.out)) | (go_at_call_of 48 (Value.slice A2 u.f2.length c2); exact Calls.quiet_of (all_c A2 c2 u.f2 _ hU2 _ (Kd.C_drewN (Kd.C_alloc G2.out _) _) L2.out))))
                        go_wp2_with fail
                        go_roundw
                        case rel => exact ⟨j + 1, by omega, by go_num, ⟨ok_next HJ.out hlt HS.out⟩, pw_below_drewN hBW _⟩
                        case measure => simp [intOf]; omega
      · have hr : r = true := by
          have := HJ.out
          rw [show l0.length - j = 0 by omega] at this
          exact this.symm
        subst hr
        go_wp2
        go_ret
        exact ⟨rfl, hB⟩
end Go.Proofs.Ytnjmhlhlmokjnaa.G
namespace Go.Proofs.Ytnjmhlhlmokjnaa.G
open Go.RowKit Go.Maps Go.Proofs.YtnjmhlhlmokjnaaW.PrintWords Go.Proofs.YtnjmhlhlmokjnaaW.PrintLast
set_option linter.unusedVariables false
set_option linter.unusedSimpArgs false
theorem fine_name {s : ByteArray} (h : nameOkB s = true) : fine s := by
  unfold nameOkB at h
  simp only [Bool.and_eq_true, decide_eq_true_eq] at h
  unfold fine
  omega
structure UnitGood (u : S32) : Prop where
  name : fine u.f0
  after : u.f1.length ≤ 20
  needs : u.f2.length ≤ 20
  fafter : ∀ n ∈ u.f1, fine n
  fneeds : ∀ n ∈ u.f2, fine n
theorem unit_good {u : S32} (h : unitB u = true) : UnitGood u := by
  unfold unitB upB at h
  simp only [Bool.and_eq_true, decide_eq_true_eq, List.all_eq_true] at h
  obtain ⟨⟨⟨⟨⟨h1, h2⟩, h3⟩, h4⟩, h5⟩, h6⟩ := h
  exact ⟨fine_name h1, h2, h3, fun n hn => fine_name (h4.1 n hn), fun n hn => fine_name (h5.1 n hn)⟩
theorem good_has {us : List S32} (h : Good us) {x : ByteArray} (hx : hasU us x = true) : fine x := by
  obtain ⟨u, hu, rfl⟩ := List.mem_map.1 (of_decide_eq_true hx)
  exact (unit_good (h.unit u hu)).name
theorem rdT_mem {l : List S32} {i : Nat} (h : i < l.length) : rd_T32 l (i : Int) ∈ l := by
  rw [rd_T32_nat l i h]
  exact List.getElem_mem h
def UOk (us : List S32) (S : ByteArray → Bool) (u : S32) : Prop := (∃ n ∈ u.f2, hasU us n = false ∨ S n = true) → S u.f0 = true
theorem cell_of_block {w w1 : World} {g o : Nat} (h : w1.heap[g]? = w.heap[g]?) : w1.cell? ⟨g, o, none⟩ = w.cell? ⟨g, o, none⟩ := by
  simp [World.cell?, h]
theorem cell_new_unit (w : World) {s : Value} {a b c d : Value} : ∀ (h : True), (w.alloc (.cells #[s, a, b, c, d] 32)).cell? ⟨w.heap.size, 0, none⟩ = some s := by
  intro _
  have := blk_new w (.cells #[s, a, b, c, d] 32)
  unfold World.cell?
  rw [this]
  rfl
def Alt (us : List S32) (br : List ByteArray) (u : S32) (S S4 : ByteArray → Bool) (n n4 q : Nat) (m m4 : Bool) : Prop :=
  (S4 = S ∧ n4 = n ∧ m4 = m ∧ ∀ x ∈ u.f2.take q, ¬ (hasU us x = false ∨ S x = true)) ∨ (S4 = (fun x => decide (x = u.f0) || S x) ∧ n4 ≤ n + q ∧ m4 = true ∧ FInv us br S4)
theorem Alt.hit {us : List S32} {br : List ByteArray} {u : S32} {S S4 : ByteArray → Bool} {n n4 q : Nat} {m m4 : Bool} (h : Alt us br u S S4 n n4 q m m4) (hI : FInv us br S) (hu : u ∈ us) {x : ByteArray} (hx : x ∈ u.f2) (hb : hasU us x = false ∨ S4 x = true) :
    Alt us br u S (fun x => decide (x = u.f0) || S4 x) n (n4 + 1) (q + 1) m true := by
  rcases h with ⟨rfl, rfl, rfl, _⟩ | ⟨rfl, h2, rfl, h4⟩
  · exact .inr ⟨rfl, by omega, rfl, hI.put hu hx hb⟩
  · have e : (fun x => decide (x = u.f0) || (decide (x = u.f0) || S x)) = fun x => decide (x = u.f0) || S x := by
      funext x; cases decide (x = u.f0) <;> rfl
    exact .inr ⟨e, by omega, rfl, by rw [e]; exact h4⟩
theorem Alt.miss {us : List S32} {br : List ByteArray} {u : S32} {S S4 : ByteArray → Bool} {n n4 q : Nat} {m m4 : Bool} (h : Alt us br u S S4 n n4 q m m4) (hq : q < u.f2.length) {x : ByteArray} (hx : x = rdOf ByteArray.empty u.f2 (q : Int)) (hb : hasU us x = true) (hb2 : S4 x = false) : Alt us br u S S4 n n4 (q + 1) m m4 := by
  rcases h with ⟨rfl, rfl, rfl, h⟩ | ⟨rfl, h2, rfl, h4⟩
  · refine .inl ⟨rfl, rfl, rfl, fun y hy => ?_⟩
    rcases (mem_take_step hq y).1 hy with rfl | hy
    · rw [← hx, hb, hb2]; simp
    · exact h y hy
  · exact .inr ⟨rfl, by omega, rfl, h4⟩
theorem unitOf_c (A0 : Option Addr) (c0 : Nat) (l0 : List S32) (x : ByteArray) (w : World) (hr0 : Kd.C k32 w A0 l0.length l0) (hc0 : l0.length ≤ c0) (hl : l0.length ≤ 9223372036854775807) :
    Calls Try.prog 44 #[.slice A0 l0.length c0, .string x] w fun e w' => e = .returned (.int .i64 (findU l0 x)) ∧ Below w.heap.size w w' := by
  obtain ⟨k, hk⟩ := (unitOf_ev l0 x hl).rounds
  exact impl_unitOf.calls k A0 c0 l0 x _ w hr0 hc0 hk
set_option maxHeartbeats 8000000 in
set_option maxRecDepth 100000 in
theorem impl_Failing.calls (A0 : Option Addr) (c0 : Nat) (l0 : List S32) (A1 : Option Addr) (c1 : Nat) (l1 : List ByteArray) (r : List ByteArray) (w : World) (hr0 : Kd.C k32 w A0 l0.length l0) (hc0 : l0.length ≤ c0) (hr1 : Kd.C Kd.string w A1 l1.length l1) (hc1 : l1.length ≤ c1) (h : impl_Failing.f l0 l1 = some r) :
    Calls Try.prog 12 #[.slice A0 l0.length c0, .slice A1 l1.length c1] w fun e w' => ∃ v0_, e = .returned (v0_) ∧ Kd.R Kd.string 9 w' w.heap.size (fun _ => True) v0_ r ∧ Below w.heap.size w w' := by
  have hu32 := Try.underlying32
  have HR0 := Aside0.mk hr0
  have HR1 := Aside0.mk hr1
  have HC0 := Aside0.mk hc0
  clear hr0 hr1 hc0 hc1
  have h2 := (Option.some.inj h).symm
  clear h
  subst h2
  have hmm := @run_makeMap Try.prog
  cases hok : unitsOkB l0 with
  | false =>
    have hf : impl_UnitsOk.f l0 = some false := by unfold impl_UnitsOk.f; rw [hok]
    go_enter Try.func12, Try.ntmps12
    go_wp2_with (first | (go_at_call 14; refine (impl_UnitsOk.calls A0 c0 l0 false _ HR0.out HC0.out hf).mono ?_; rintro e w' ⟨rfl, hb⟩) | fail)
    go_ret
    exact ⟨_, rfl, Kd.R_nil _ _ _ _ _, hb⟩
  | true =>
    have hf : impl_UnitsOk.f l0 = some true := by unfold impl_UnitsOk.f; rw [hok]
    have hgood := good_of_ok hok
    by_cases hlen : l1.length ≤ 2000
    · have hd1 : decide ((2000 : Int) < (l1.length : Int)) = false := decide_eq_false (by omega)
      rw [decide_eq_true hlen]
      have HG := Aside0.mk hgood
      clear hgood
      go_enter Try.func12, Try.ntmps12
      go_wp2_with (first | (go_at_call 14; refine (impl_UnitsOk.calls A0 c0 l0 true _ HR0.out HC0.out hf).mono ?_; rintro e w1 ⟨rfl, hb1⟩) | fail)
      go_loopw [24] (fun i wr => ∃ (j n : Nat) (S : ByteArray → Bool), j ≤ l1.length ∧ n ≤ j ∧ i = .int .i64 j ∧ Aside0 (SetM wr w1.heap.size n S) ∧ Aside0 (∀ x, S x = true ↔ x ∈ l1.take j ∧ hasU l0 x = true) ∧ Aside0 (Below w.heap.size w wr)) (fun i _ => l1.length - (intOf i).toNat)
      case atStart => exact ⟨0, 0, _, Nat.zero_le _, Nat.le_refl _, rfl, ⟨SetM.made w1⟩, ⟨by simp⟩, ⟨below_alloc hb1 _⟩⟩
      case round =>
        obtain ⟨j, n, S, hj, hnj, rfl, HS, HM, HB⟩ := hrel
        by_cases hlt : j < l1.length
        · obtain ⟨ad, hA, x0⟩ := Kd.at_string HR1.out (j : Int) (by omega) (by omega)
          cases hA
          obtain ⟨u, hu0⟩ : ∃ u, u = rdOf ByteArray.empty l1 (j : Int) := ⟨_, rfl⟩
          rw [← hu0] at x0
          simp only [Int.toNat_natCast] at x0
          have HU := Aside0.mk hu0
          replace x0 := (HB.out.cell (World.block_lt_of_cell? w _ x0)).trans x0
          clear hu0
          have hwb : w1.heap.size < wr.heap.size := HS.out.lt
          cases hh : hasU l0 u with
          | false =>
            have hd : decide ((0 : Int) ≤ findU l0 u) = false := by rw [findU_has, hh]
            go_wp2_with (first | (go_at_call 44; refine (unitOf_c A0 c0 l0 u _ (Kd.C_below HR0.out HB.out) HC0.out (by have := HG.out.len; omega)).mono ?_; rintro e w2 ⟨rfl, hb2⟩) | fail)
            go_roundw
            case rel =>
              exact ⟨j + 1, n, S, hlt, by omega, by simp, ⟨HS.out.below hb2⟩, ⟨fun x => by
                rw [mem_take_step hlt, ← HU.out, HM.out x]
                constructor
                · rintro ⟨h1, h2⟩; exact ⟨.inr h1, h2⟩
                · rintro ⟨h1 | h1, h2⟩
                  · rw [h1, hh] at h2; cases h2
                  · exact ⟨h1, h2⟩⟩, ⟨below_weaken HB.out HB.out.size hb2⟩⟩
            case measure => simp [intOf]; omega
          | true =>
            have hd : decide ((0 : Int) ≤ findU l0 u) = true := by rw [findU_has, hh]
            have hfu : fine u := good_has HG.out hh
            go_wp2_with (first | (go_at_call 44; refine (unitOf_c A0 c0 l0 u _ (Kd.C_below HR0.out HB.out) HC0.out (by have := HG.out.len; omega)).mono ?_; rintro e w2 ⟨rfl, hb2⟩) | (at_mapUpdate; refine wpList_set_put _ rfl _ _ _ rfl w1.heap.size n S u rfl rfl rfl (HS.out.below hb2) (by omega) hfu ?_; intro w3 hs3 hg3) | fail)
            go_roundw
            case rel =>
              exact ⟨j + 1, n + 1, _, hlt, by omega, by simp, ⟨hs3⟩, ⟨fun x => by
                rw [mem_take_step hlt, ← HU.out]
                simp only [Bool.or_eq_true, decide_eq_true_eq, HM.out x]
                constructor
                · rintro (h1 | ⟨h1, h2⟩)
                  · exact ⟨.inl h1, by rw [h1, hh]⟩
                  · exact ⟨.inr h1, h2⟩
                · rintro ⟨h1 | h1, h2⟩
                  · exact .inl h1
                  · exact .inr ⟨h1, h2⟩⟩, ⟨(below_weaken HB.out HB.out.size hb2).grown hg3 (below_weaken HB.out HB.out.size hb2).size (fun k hk => by cases hk; exact hb1.size)⟩⟩
            case measure => simp [intOf]; omega
        · have hje : j = l1.length := by omega
          subst hje
          have hm1 : w.heap.size ≤ w1.heap.size := hb1.size
          have HI : Aside0 (FInv l0 l1 S) := ⟨⟨fun x hx => by
            have := (HM.out x).1 hx
            rw [List.take_length] at this
            exact failL_base this.1 this.2, fun x hx hh => (HM.out x).2 (by rw [List.take_length]; exact ⟨hx, hh⟩)⟩⟩
          have hn0 : n ≤ 2000 + 20 * cntS l0 S := by omega
          clear HM HR1 hb1
          go_wp2_with fail
          obtain ⟨K, hK⟩ : ∃ K, K = l0.length + 2 := ⟨_, rfl⟩
          go_loopg [8] K (fun kq v8 wr => ∃ (m : Bool) (n : Nat) (S : ByteArray → Bool), v8 = .bool m ∧ n ≤ 2000 + 20 * cntS l0 S ∧ Aside0 (SetM wr w1.heap.size n S) ∧ Aside0 (FInv l0 l1 S) ∧ Aside0 (m = false → Closed l0 (fun x => S x = true)) ∧ Aside0 (Below w.heap.size w wr) ∧ Aside0 (kq ≤ K) ∧ Aside0 (1 ≤ kq ∧ (m = true → l0.length + 2 ≤ cntS l0 S + kq)))
          case atStart => exact ⟨true, n, S, rfl, hn0, HS, HI, ⟨by simp⟩, HB, ⟨Nat.le_refl _⟩, ⟨by omega, by omega⟩⟩
          case round =>
            clear HS HI HB hn0 hnj hj hlt
            obtain ⟨m, n, S, rfl, hn, HS, HI, HC, HB, HK1, HK2⟩ := hrel
            cases gk with
            | zero => exact absurd HK2.out.1 (by omega)
            | succ k1 =>
              cases m with
              | false =>
                have hdone := HI.out.done (HC.out rfl)
                have hcl : (canonL (failL l0 l1)).length ≤ 1000000 := by
                  have h1 := len_le_of (canonL (failL l0 l1)) (namesU l0) (asc_nodup (asc_canonL _)) (fun x hx => of_decide_eq_true (failL_has x ((mem_canonL x _).1 hx)))
                  have h2 := HG.out.len
                  simp only [namesU, List.length_map] at h1
                  omega
                go_wp2_with (first | (go_at_call 45; refine (impl_keysOf.calls w1.heap.size n S (canonL (failL l0 l1)) _ HS.out hcl (fun x hx => good_has HG.out (failL_has x ((mem_canonL x _).1 hx))) (fun x _ => (hdone x).trans (mem_canonL x _).symm)).mono ?_; rintro e w' ⟨v0, rfl, hr, hb'⟩) | fail)
                go_ret
                refine ⟨_, rfl, ?_, below_weaken HB.out HB.out.size hb'⟩
                rw [canonL_of_asc (asc_canonL _)] at hr
                exact Kd.R_lower hr HB.out.size
              | true =>
                have HK := Aside0.mk (HK2.out.2 rfl)
                go_wp2_with fail
                have hk1 : 1 ≤ k1 := by have := HK.out; have := cntS_le l0 S; omega
                obtain ⟨c00, hc00⟩ : ∃ c, c = cntS l0 S := ⟨_, rfl⟩
                rw [← hc00] at HK
                go_loopw [38, 8] (fun v38 v8 wr => ∃ (i n : Nat) (m : Bool) (S : ByteArray → Bool), v38 = .int .i64 i ∧ v8 = .bool m ∧ i ≤ l0.length ∧ n ≤ 2000 + 20 * cntS l0 S ∧ Aside0 (SetM wr w1.heap.size n S) ∧ Aside0 (FInv l0 l1 S) ∧ Aside0 (Below w.heap.size w wr) ∧ c00 ≤ cntS l0 S ∧ Aside0 (m = true → c00 < cntS l0 S) ∧ Aside0 (m = false → ∀ i' : Nat, i' < i → UOk l0 S (rd_T32 l0 (i' : Int)))) (fun v38 _ _ => l0.length - (intOf v38).toNat)
                case atStart => exact ⟨0, n, false, S, rfl, rfl, Nat.zero_le _, hn, HS, HI, HB, by omega, ⟨by simp⟩, ⟨fun _ i' h => absurd h (Nat.not_lt_zero _)⟩⟩
                case round =>
                  clear HS HI HB hn HC hc00
                  obtain ⟨i, n, m, S, rfl, rfl, hi, hn, HS, HI, HB, hcc, HM1, HM2⟩ := hrel
                  have hl100 : l0.length ≤ 100 := HG.out.len
                  by_cases hlt : i < l0.length
                  · obtain ⟨ad, A1', c1', A2, c2, hA, x0, x1, x2, x3, x4, l1', g1, l2, g2⟩ := at_T32 HR0.out (i : Int) (by omega) (by omega)
                    cases hA
                    simp only [Int.toNat_natCast] at x0 x1 x2 x3 x4
                    obtain ⟨u, hu0⟩ : ∃ u, u = rd_T32 l0 (i : Int) := ⟨_, rfl⟩
                    have HU := Aside0.mk hu0
                    rw [← hu0] at x0 x1 x2 x3 x4 g1 g2 l1' l2
                    have hum : u ∈ l0 := by rw [hu0]; exact rdT_mem hlt
                    clear hu0 g1 l1'
                    have G2 := Aside0.mk g2
                    have L2 := Aside0.mk l2
                    clear g2 l2
                    have hug := unit_good (HG.out.unit u hum)
                    replace x0 := (HB.out.cell (World.block_lt_of_cell? w _ x0)).trans x0
                    replace x1 := (HB.out.cell (World.block_lt_of_cell? w _ x1)).trans x1
                    replace x2 := (HB.out.cell (World.block_lt_of_cell? w _ x2)).trans x2
                    replace x3 := (HB.out.cell (World.block_lt_of_cell? w _ x3)).trans x3
                    replace x4 := (HB.out.cell (World.block_lt_of_cell? w _ x4)).trans x4
                    cases hS : S u.f0 with
                    | true =>
                      go_wp2_with (first | (at_lookup; refine wpList_set_look _ rfl _ _ rfl w1.heap.size n S u.f0 rfl rfl (HS.out.alloc _) hug.name ?_; rw [hS]) | fail)
                      go_roundw
                      case rel =>
                        exact ⟨i + 1, n, m, S, by simp, rfl, hlt, hn, ⟨HS.out.alloc _⟩, HI, ⟨below_alloc HB.out _⟩, hcc, HM1, ⟨fun hm i' hi' => by
                          rcases Nat.lt_or_ge i' i with h | h
                          · exact HM2.out hm i' h
                          · obtain rfl : i' = i := by omega
                            rw [← HU.out]
                            exact fun _ => hS⟩⟩
                      case measure => simp [intOf]; omega
                    | false =>
                      go_wp2_with (first | (at_lookup; refine wpList_set_look _ rfl _ _ rfl w1.heap.size n S u.f0 rfl rfl (HS.out.alloc _) hug.name ?_; rw [hS]) | fail)
                      have hwb : w1.heap.size < wr.heap.size := HS.out.lt
                      have hcell : (wr.alloc (.cells #[Value.string u.f0, Value.slice A1' u.f1.length c1', Value.slice A2 u.f2.length c2, Value.string u.f3, Value.bool u.f4] 32)).cell? ⟨wr.heap.size, 0, none⟩ = some (.string u.f0) := by
                        exact cell_new_unit _ trivial
                      have HSa := Aside0.mk (HS.out.alloc (.cells #[Value.string u.f0, Value.slice A1' u.f1.length c1', Value.slice A2 u.f2.length c2, Value.string u.f3, Value.bool u.f4] 32))
                      have HBa := Aside0.mk (below_alloc HB.out (.cells #[Value.string u.f0, Value.slice A1' u.f1.length c1', Value.slice A2 u.f2.length c2, Value.string u.f3, Value.bool u.f4] 32))
                      have hszn : wr.heap.size < (wr.alloc (.cells #[Value.string u.f0, Value.slice A1' u.f1.length c1', Value.slice A2 u.f2.length c2, Value.string u.f3, Value.bool u.f4] 32)).heap.size := blk_lt (blk_new _ _)
                      obtain ⟨pb, hpb⟩ : ∃ p, p = wr.heap.size := ⟨_, rfl⟩
                      rw [← hpb] at hcell hwb hszn ⊢
                      clear hpb
                      go_loopw [49, 8] (fun v49 v8 wr4 => ∃ (q n4 : Nat) (m4 : Bool) (S4 : ByteArray → Bool), v49 = .int .i64 q ∧ v8 = .bool m4 ∧ q ≤ u.f2.length ∧ Aside0 (SetM wr4 w1.heap.size n4 S4) ∧ Aside0 (Below w.heap.size w wr4) ∧ wr4.cell? ⟨pb, 0, none⟩ = some (.string u.f0) ∧ pb < wr4.heap.size ∧ Aside0 (Alt l0 l1 u S S4 n n4 q m m4)) (fun v49 _ _ => u.f2.length - (intOf v49).toNat)
                      case atStart => exact ⟨0, n, m, S, rfl, rfl, Nat.zero_le _, HSa, HBa, hcell, hszn, ⟨.inl ⟨rfl, rfl, rfl, by simp⟩⟩⟩
                      case round =>
                        clear HSa HBa hcell hszn
                        obtain ⟨q, n4, m4, S4, rfl, rfl, hq, HS4, HB4, hcell, hsz4, HA4⟩ := hrel
                        have hl20 : u.f2.length ≤ 20 := hug.needs
                        by_cases hlq : q < u.f2.length
                        · obtain ⟨ad2, hA2, y0⟩ := Kd.at_string G2.out (q : Int) (by omega) (by omega)
                          cases hA2
                          obtain ⟨s, hs0⟩ : ∃ s, s = rdOf ByteArray.empty u.f2 (q : Int) := ⟨_, rfl⟩
                          rw [← hs0] at y0
                          simp only [Int.toNat_natCast] at y0
                          have HSS := Aside0.mk hs0
                          replace y0 := (HB4.out.cell (World.block_lt_of_cell? w _ y0)).trans y0
                          have hsm : s ∈ u.f2 := by rw [hs0]; exact rd_mem hlq
                          have hfs : fine s := hug.fneeds s hsm
                          clear hs0
                          have hcn := cntS_le l0 S
                          have hn4 : n4 < 9223372036854775807 := by
                            rcases HA4.out with ⟨_, h, _⟩ | ⟨_, h, _⟩ <;> omega
                          cases hh : hasU l0 s with
                          | false =>
                            have hd : decide (findU l0 s < 0) = true := by rw [findU_lt, hh]; rfl
                            go_wp2_with (first | (go_at_call 44; refine (unitOf_c (some ad) c0 l0 s _ (Kd.C_below HR0.out HB4.out) HC0.out (by omega)).mono ?_; rintro e w5 ⟨rfl, hb5⟩; replace hcell := (hb5.cell (p := ⟨pb, 0, none⟩) hsz4).trans hcell) | (at_mapUpdate; refine wpList_set_put _ rfl _ _ _ rfl w1.heap.size n4 S4 u.f0 rfl rfl rfl (HS4.out.below hb5) hn4 hug.name ?_; intro w6 hs6 hg6) | fail)
                            go_roundw
                            case rel =>
                              refine ⟨q + 1, n4 + 1, true, _, by simp, rfl, hlq, ⟨hs6⟩, ⟨(below_weaken HB4.out HB4.out.size hb5).grown hg6 (below_weaken HB4.out HB4.out.size hb5).size (fun k hk => by cases hk; exact hm1)⟩, ?_, ?_, ⟨HA4.out.hit HI.out hum hsm (.inl hh)⟩⟩
                              · have h5 : pb < w5.heap.size := Nat.lt_of_lt_of_le hsz4 hb5.size
                                rw [cell_of_block (hg6.block _ h5 (by simp; omega))]
                                exact hcell
                              · exact Nat.lt_of_lt_of_le (Nat.lt_of_lt_of_le hsz4 hb5.size) hg6.size
                            case measure => simp [intOf]; omega
                          | true =>
                            have hd : decide (findU l0 s < 0) = false := by rw [findU_lt, hh]; rfl
                            cases hS4 : S4 s with
                            | true =>
                              go_wp2_with (first | (go_at_call 44; refine (unitOf_c (some ad) c0 l0 s _ (Kd.C_below HR0.out HB4.out) HC0.out (by omega)).mono ?_; rintro e w5 ⟨rfl, hb5⟩; replace hcell := (hb5.cell (p := ⟨pb, 0, none⟩) hsz4).trans hcell; have hlook := (HS4.out.below hb5).look hfs; rw [hS4] at hlook) | (at_mapUpdate; refine wpList_set_put _ rfl _ _ _ rfl w1.heap.size n4 S4 u.f0 rfl rfl rfl (HS4.out.below hb5) hn4 hug.name ?_; intro w6 hs6 hg6) | fail)
                              go_roundw
                              case rel =>
                                refine ⟨q + 1, n4 + 1, true, _, by simp, rfl, hlq, ⟨hs6⟩, ⟨(below_weaken HB4.out HB4.out.size hb5).grown hg6 (below_weaken HB4.out HB4.out.size hb5).size (fun k hk => by cases hk; exact hm1)⟩, ?_, ?_, ⟨HA4.out.hit HI.out hum hsm (.inr hS4)⟩⟩
                                · have h5 : pb < w5.heap.size := Nat.lt_of_lt_of_le hsz4 hb5.size
                                  rw [cell_of_block (hg6.block _ h5 (by simp; omega))]
                                  exact hcell
                                · exact Nat.lt_of_lt_of_le (Nat.lt_of_lt_of_le hsz4 hb5.size) hg6.size
                              case measure => simp [intOf]; omega
                            | false =>
                              go_wp2_with (first | (go_at_call 44; refine (unitOf_c (some ad) c0 l0 s _ (Kd.C_below HR0.out HB4.out) HC0.out (by omega)).mono ?_; rintro e w5 ⟨rfl, hb5⟩; replace hcell := (hb5.cell (p := ⟨pb, 0, none⟩) hsz4).trans hcell; have hlook := (HS4.out.below hb5).look hfs; rw [hS4] at hlook) | fail)
                              go_roundw
                              case rel => exact ⟨q + 1, n4, m4, S4, by simp, rfl, hlq, ⟨HS4.out.below hb5⟩, ⟨below_weaken HB4.out HB4.out.size hb5⟩, hcell, Nat.lt_of_lt_of_le hsz4 hb5.size, ⟨HA4.out.miss hlq HSS.out hh hS4⟩⟩
                              case measure => simp [intOf]; omega
                        · have hqe : q = u.f2.length := by omega
                          subst hqe
                          rcases HA4.out with ⟨rfl, rfl, rfl, hno⟩ | ⟨rfl, h2, rfl, hI4⟩
                          · have HNo := Aside0.mk hno
                            clear hno
                            go_wp2_with fail
                            go_roundw
                            case rel =>
                              exact ⟨i + 1, _, _, _, by simp, rfl, hlt, hn, HS4, HI, HB4, hcc, HM1, ⟨fun hm i' hi' => by
                                rcases Nat.lt_or_ge i' i with h | h
                                · exact HM2.out hm i' h
                                · obtain rfl : i' = i := by omega
                                  rw [← HU.out]
                                  rintro ⟨x, hx, hb⟩
                                  exact absurd hb (HNo.out x (by rw [List.take_length]; exact hx))⟩⟩
                            case measure => simp [intOf]; omega
                          · have HI4 := Aside0.mk hI4
                            clear hI4
                            have hcp := cntS_put hum hS
                            go_wp2_with fail
                            go_roundw
                            case rel =>
                              exact ⟨i + 1, n4, true, _, by simp, rfl, hlt, by omega, HS4, HI4, HB4, by omega, ⟨fun _ => by omega⟩, ⟨by simp⟩⟩
                            case measure => simp [intOf]; omega
                  · have hie : i = l0.length := by omega
                    subst hie
                    go_wp2_with fail
                    go_roundg k1
                    case measure => have := HK1.out; omega
                    case rel =>
                      refine ⟨m, n, S, rfl, hn, HS, HI, ⟨fun hm u hu hb => ?_⟩, HB, ⟨by have := HK1.out; omega⟩, ⟨hk1, fun hm => by have := HM1.out hm; have := HK.out; omega⟩⟩
                      obtain ⟨i', hi', rfl⟩ := List.getElem_of_mem hu
                      have := HM2.out hm i' hi'
                      rw [rd_T32_nat l0 i' hi'] at this
                      exact this hb
    · have hd1 : decide ((2000 : Int) < (l1.length : Int)) = true := decide_eq_true (by omega)
      rw [decide_eq_false hlen]
      clear hgood
      go_enter Try.func12, Try.ntmps12
      go_wp2_with (first | (go_at_call 14; refine (impl_UnitsOk.calls A0 c0 l0 true _ HR0.out HC0.out hf).mono ?_; rintro e w' ⟨rfl, hb⟩) | fail)
      go_ret
      exact ⟨_, rfl, Kd.R_nil _ _ _ _ _, hb⟩
end Go.Proofs.Ytnjmhlhlmokjnaa.G
