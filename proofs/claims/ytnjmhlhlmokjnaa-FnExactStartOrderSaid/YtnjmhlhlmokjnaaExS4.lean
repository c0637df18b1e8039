/-
  Part 4 of the texts of this claim: XSet, XSortPlain, XSorted, XUnitsImpl, XUnitsSpec, XFailing, GImplWaits, GSpecL3Add, GSpecFailing, XPureAdd, XStartPlain, XStart, GSpecL18Ready.
-/
import Derived.Maps.OwnSet
import Derived.Maps.RangeWalk
import Derived.Deep.QuietTactic
import Derived.BigQuiet
import Derived.RegionTactic
import Derived.ChangeAlike
import Derived.BigRegion
import Derived.Test.YtnjmhlhlmokjnaaExS3
namespace Go.Proofs.Ytnjmhlhlmokjnaa.G
open Go.RowKit Go.Maps Go.Proofs.YtnjmhlhlmokjnaaW.PrintWords
set_option linter.unusedVariables false
set_option linter.unusedSimpArgs false
theorem law9 : Keyed Try.prog 9 := string_keyed Try.underlying9
theorem zero4 (w : World) : (zeroValue 4).run Try.prog w = .ok (.bool false) w := by kernel_rfl
def fine (s : ByteArray) : Prop := s.size ≤ 9223372036854775807
theorem key9 {s : ByteArray} (h : fine s) : keyOf Try.prog 9 (.string s) = some (.string s.data.toList) := Go.WideMaps.keyOf_string_mk Try.underlying9 (by unfold fine at h; unfold maxLen; exact h)
theorem plainElem_bool_inv {H : Type} {v : Value} {z : DataW H × List MemPlace} (h : plainElem Try.prog 4 v = some z) : ∃ b, v = .bool b ∧ z = (.lit (.bool b), []) := by
  unfold plainElem at h
  rw [Try.underlying4] at h
  cases v <;> simp at h
  exact ⟨_, rfl, h.symm⟩
theorem keyOf_string_inv {key : Value} {kl : Lit} (h : keyOf Try.prog 9 key = some kl) : ∃ s, key = .string s ∧ kl = .string s.data.toList ∧ fine s := by
  cases key <;> simp [keyOf, Try.underlying9, mapKey] at h
  obtain ⟨hw, rfl⟩ := h
  exact ⟨_, rfl, rfl, by unfold fine; unfold maxLen at hw; exact hw⟩
theorem data_inj {s t : ByteArray} (h : s.data.toList = t.data.toList) : s = t := by
  cases s; cases t
  simp at h
  rw [h]
theorem lit_ne {s t : ByteArray} (h : s ≠ t) : (Lit.string s.data.toList) ≠ .string t.data.toList := fun e => h (data_inj (by injection e))
def SetM (w : World) (b n : Nat) (S : ByteArray → Bool) : Prop :=
  ∃ D : DataW Unit, w.ownsMap Try.prog 9 (plainElem Try.prog 4) b n D ∧ (∀ s, fine s → D.atKey (.string s.data.toList) (.lit (.bool false)) = .lit (.bool (S s))) ∧ ∀ s, fine s → Maps.has D (.string s.data.toList) = S s
section
variable {w w1 : World} {b n : Nat} {S : ByteArray → Bool}
theorem SetM.made (w : World) : SetM (w.alloc (.map #[] 0)) w.heap.size 0 (fun _ => false) :=
  ⟨.map [], World.ownsMap_made w _ _ _, fun _ _ => rfl, fun _ _ => rfl⟩
theorem SetM.lt (h : SetM w b n S) : b < w.heap.size := by obtain ⟨D, h, _⟩ := h; exact h.lt
theorem SetM.mono (h : SetM w b n S) {n' : Nat} (hn : n ≤ n') : SetM w b n' S := by obtain ⟨D, h, r⟩ := h; exact ⟨D, h.mono hn, r⟩
theorem SetM.block (h : SetM w b n S) : ∃ es clock, w.heap[b]? = some (.map es clock) := by
  obtain ⟨D, ⟨es, clock, hb, _⟩, _⟩ := h
  exact ⟨es, clock, hb⟩
theorem SetM.move (h : SetM w b n S) (hm : w1.heap[b]? = w.heap[b]?) : SetM w1 b n S := by
  obtain ⟨D, ⟨es, clock, hb, r0⟩, r⟩ := h
  exact ⟨D, ⟨es, clock, hm.trans hb, r0⟩, r⟩
theorem SetM.below (h : SetM w b n S) (hb : Below w.heap.size w w1) : SetM w1 b n S := h.move (hb.block b h.lt)
theorem SetM.grown (h : SetM w b n S) {row : Option Nat} (hg : w.grownBy w1 row) (hne : some b ≠ row) : SetM w1 b n S := h.move (hg.block b h.lt hne)
theorem SetM.alloc (h : SetM w b n S) (o : Obj) : SetM (w.alloc o) b n S := h.below (below_alloc (Below.refl _ _) o)
theorem SetM.drewN (h : SetM w b n S) (m : Nat) : SetM (w.drewN m) b n S := h.below (pw_below_drewN (Below.refl _ _) m)
theorem SetM.look (h : SetM w b n S) {s : ByteArray} (hs : fine s) : (Instr.lookup 64 (.map (some b)) (.string s) false).run Try.prog w = .ok (.bool (S s)) w := by
  obtain ⟨D, h, ha, _⟩ := h
  obtain ⟨v, ps, hrun, hv⟩ := h.lookup law9 Try.underlying64 (zero4 w) (plainElem_bool Try.underlying4 false) (key9 hs)
  obtain ⟨c, rfl, hc⟩ := plainElem_bool_inv hv
  rw [ha s hs] at hc
  have hc2 : S s = c := by
    simp at hc
    exact hc.1
  rw [hrun, ← hc2]
theorem SetM.put (h : SetM w b n S) (hn : n < 9223372036854775807) {s : ByteArray} (hs : fine s) :
    ∃ w', (Instr.mapUpdate 64 (.map (some b)) (.string s) (.bool true)).run Try.prog w = .ok () w' ∧ SetM w' b (n + 1) (fun x => decide (x = s) || S x) ∧ w.grownBy w' (some b) := by
  obtain ⟨D, h, ha, hh⟩ := h
  obtain ⟨w', hrun, h2, hg⟩ := h.update law9 Try.underlying64 (by unfold maxLen; exact hn) (key9 hs) (plainElem_bool Try.underlying4 true)
  refine ⟨w', hrun, ⟨_, h2, fun x hx => ?_, fun x hx => ?_⟩, hg⟩
  · by_cases e : x = s
    · subst e
      rw [atKey_put_same h.isMap (by trivial)]
      simp
    · rw [atKey_put_other (lit_ne e), ha x hx]
      simp [e]
  · by_cases e : x = s
    · subst e
      rw [has_put_same h.isMap (by trivial)]
      simp
    · rw [has_put_other (lit_ne e), hh x hx]
      simp [e]
theorem SetM.drop (h : SetM w b n S) {s : ByteArray} (hs : fine s) (ty : TypeId) :
    ∃ w', (Builtin.delete_ #[64, 9] ty #[.map (some b), .string s]).run Try.prog w = .ok (.tuple #[]) w' ∧ SetM w' b n (fun x => !decide (x = s) && S x) ∧ w.grownBy w' (some b) := by
  obtain ⟨D, h, ha, hh⟩ := h
  obtain ⟨w', hrun, h2, hg⟩ := h.drop law9 Try.underlying64 (key9 hs) ty
  refine ⟨w', hrun, ⟨_, h2, fun x hx => ?_, fun x hx => ?_⟩, hg.grown⟩
  · by_cases e : x = s
    · subst e
      rw [atKey_del_same]
      simp
    · rw [atKey_del_other (lit_ne e), ha x hx]
      simp [e]
  · by_cases e : x = s
    · subst e
      rw [has_del_same]
      simp
    · rw [has_del_other (lit_ne e), hh x hx]
      simp [e]
end
section
variable (w : World) {ops : Array Oper} {rest : List Oper} {o : Oper} {a : Act} {Q : Exit → Act → World → Prop}
theorem wpList_set_put (hg : o.guard = none) (m x v : Operand) (hop : o.op = Op.mapUpdate 64 m x v) (b n : Nat) (S : ByteArray → Bool) (s : ByteArray)
    (hm : a.eval m = .map (some b)) (hx : a.eval x = .string s) (hv : a.eval v = .bool true) (h : SetM w b n S) (hn : n < 9223372036854775807) (hs : fine s)
    (hK : ∀ w', SetM w' b (n + 1) (fun x => decide (x = s) || S x) → w.grownBy w' (some b) → wpList Try.prog ops Q rest (a.put o.dst undef) w') : wpList Try.prog ops Q (o :: rest) a w := by
  refine wpList_plain hg fun K' hK' => ?_
  obtain ⟨w', hrun, r1, r2⟩ := h.put hn hs
  unfold Oper.wp
  simp [execOp, hop, hm, hx, hv, hrun, Result.andThen]
  exact hK' _ _ (hK w' r1 r2)
theorem wpList_set_look (hg : o.guard = none) (m x : Operand) (hop : o.op = Op.lookup 64 m x false) (b n : Nat) (S : ByteArray → Bool) (s : ByteArray)
    (hm : a.eval m = .map (some b)) (hx : a.eval x = .string s) (h : SetM w b n S) (hs : fine s)
    (hK : wpList Try.prog ops Q rest (a.put o.dst (.bool (S s))) w) : wpList Try.prog ops Q (o :: rest) a w := by
  refine wpList_plain hg fun K' hK' => ?_
  unfold Oper.wp
  simp [execOp, hop, hm, hx, h.look hs, Result.andThen]
  exact hK' _ _ hK
def SetR (w : World) (b r n : Nat) (S L : ByteArray → Bool) (cnt : Nat) : Prop :=
  ∃ (D : DataW Unit) (left : Lit → Bool), w.ranges Try.prog 9 (plainElem Try.prog 4) b r n D left cnt ∧ (∀ s, fine s → D.atKey (.string s.data.toList) (.lit (.bool false)) = .lit (.bool (S s))) ∧ (∀ s, fine s → Maps.has D (.string s.data.toList) = S s) ∧ ∀ s, fine s → left (.string s.data.toList) = L s
theorem SetR.left_eq {w : World} {b r n cnt : Nat} {S L : ByteArray → Bool} (h : SetR w b r n S L cnt) : w.rangeLeft b r = cnt := by obtain ⟨D, left, h, _⟩ := h; exact h.left_eq
theorem SetR.move {w w1 : World} {b r n cnt : Nat} {S L : ByteArray → Bool} (h : SetR w b r n S L cnt) {row : Option Nat} (hg : w.grownBy w1 row) (hb : some b ≠ row) (hr : some r ≠ row) : SetR w1 b r n S L cnt := by
  obtain ⟨D, left, h, x⟩ := h
  exact ⟨D, left, h.kept hg hb hr, x⟩
theorem SetR.lt {w : World} {b r n cnt : Nat} {S L : ByteArray → Bool} (h : SetR w b r n S L cnt) : r < w.heap.size := by obtain ⟨D, left, h, _⟩ := h; exact h.lt
theorem wpList_set_range (hg : o.guard = none) (m : Operand) (hop : o.op = Op.range 64 m) (b n : Nat) (S : ByteArray → Bool) (hm : a.eval m = .map (some b)) (h : SetM w b n S)
    (hK : ∀ w' cnt, SetR w' b w.heap.size n S S cnt → w.grownBy w' none → w'.heap.size = w.heap.size + 1 → wpList Try.prog ops Q rest (a.put o.dst (.pointer (some ⟨w.heap.size, 0, none⟩))) w') :
    wpList Try.prog ops Q (o :: rest) a w := by
  obtain ⟨D, hown, ha, hh⟩ := h
  exact wpList_range_own w hg m 64 hop 9 4 law9 Try.underlying64 _ b n D hm hown (fun w' hr hg hs => hK w' _ ⟨D, _, hr, ha, hh, hh⟩ hg hs)
theorem wpList_set_next (hg : o.guard = none) (it : Operand) (hop : o.op = Op.next it false) (b r n : Nat) (S L : ByteArray → Bool) (cnt : Nat)
    (hit : a.eval it = .pointer (some ⟨r, 0, none⟩)) (h : SetR w b r n S L cnt)
    (hDone : (∀ s, fine s → L s = false) → wpList Try.prog ops Q rest (a.put o.dst (.tuple #[.bool false])) w)
    (hMore : ∀ (s : ByteArray) (w' : World) (cnt' : Nat), fine s → L s = true → S s = true → SetR w' b r n S (fun x => L x && !decide (x = s)) cnt' → cnt' < cnt →
      w.grownBy w' (some r) → w'.heap.size = w.heap.size → (Instr.entry (.pointer (some ⟨r, 0, none⟩))).run Try.prog w' = .ok (.tuple #[.string s, .bool true]) w' → wpList Try.prog ops Q rest (a.put o.dst (.tuple #[.bool true, .string s, .bool true])) w') :
    wpList Try.prog ops Q (o :: rest) a w := by
  obtain ⟨D, left, hr, ha, hh, hl⟩ := h
  refine wpList_next_ranges w hg it hop 9 law9 (plainElem Try.prog 4) Value.string Value.bool (fun key kl hk => by obtain ⟨s, rfl, _⟩ := keyOf_string_inv hk; exact ⟨s, rfl⟩) (fun v y hv => by obtain ⟨c, rfl, _⟩ := plainElem_bool_inv hv; exact ⟨c, rfl⟩)
    b r n D left cnt hit hr (fun _ hl0 => hDone (fun s hs => by rw [← hl s hs]; exact hl0 _)) ?_
  intro s c kl y w' cnt' hkey hlk hv hat hrg hlt hgr hsz hen
  obtain ⟨s', es, rfl, hs⟩ := keyOf_string_inv hkey
  cases es
  obtain ⟨c', ec, rfl⟩ := plainElem_bool_inv hv
  cases ec
  have hS : S s = c := by
    have := (ha s hs).symm.trans (hat (.lit (.bool false)))
    simpa using this
  have hLs : L s = true := by rw [← hl s hs]; exact hlk
  have hhs : S s = true := by
    rw [← hh s hs]
    exact Maps.has_true_of_atKey hat
  have hc : c = true := by rw [← hS]; exact hhs
  subst hc
  refine hMore s w' cnt' hs hLs hhs ⟨D, _, hrg, ha, hh, fun x hx => ?_⟩ hlt hgr hsz hen
  show (left (.string x.data.toList) && !(Lit.string x.data.toList).sameKey (.string s.data.toList)) = _
  rw [hl x hx]
  by_cases e : x = s
  · subst e
    rw [WideAt.sameKey_self (by trivial)]
    simp
  · rw [Maps.sameKey_ne (lit_ne e)]
    simp [e]
end
end Go.Proofs.Ytnjmhlhlmokjnaa.G
namespace Go.Proofs.Ytnjmhlhlmokjnaa.G
set_option linter.unusedVariables false
set_option linter.unusedSimpArgs false
def atB (l : List ByteArray) (i : Nat) : ByteArray := l.getD i ByteArray.empty
def SrtBut (l : List ByteArray) (i j : Nat) : Prop := ∀ a b, a < b → b ≤ i → b ≠ j → lessB (atB l b) (atB l a) = false
def Srt (l : List ByteArray) (i : Nat) : Prop := ∀ a b, a < b → b < i → lessB (atB l b) (atB l a) = false
theorem srt_one (l : List ByteArray) : Srt l 1 := fun a b h k => by omega
theorem srt_start {l : List ByteArray} {i : Nat} (h : Srt l i) : SrtBut l i i := fun a b hab hb hne => h a b hab (by omega)
def swapB (l : List ByteArray) (j : Nat) : List ByteArray := (l.set (j - 1) (atB l j)).set j (atB l (j - 1))
theorem at_set {l : List ByteArray} {i : Nat} (x : ByteArray) (j : Nat) (hi : i < l.length) : atB (l.set i x) j = if i = j then x else atB l j := by
  unfold atB
  simp only [List.getD_eq_getElem?_getD, List.getElem?_set]
  split
  · simp [hi]
  · rfl
theorem at_swap {l : List ByteArray} {j : Nat} (h0 : 0 < j) (hj : j < l.length) (b : Nat) : atB (swapB l j) b = if b = j then atB l (j - 1) else if b = j - 1 then atB l j else atB l b := by
  unfold swapB
  rw [at_set _ _ (by simpa using hj), at_set _ _ (by omega)]
  by_cases h1 : b = j
  · rw [if_pos h1, if_pos h1.symm]
  · rw [if_neg h1, if_neg (fun e => h1 e.symm)]
    by_cases h2 : b = j - 1
    · rw [if_pos h2, if_pos h2.symm]
    · rw [if_neg h2, if_neg (fun e => h2 e.symm)]
theorem swap_perm {l : List ByteArray} {j : Nat} (h0 : 0 < j) (hj : j < l.length) : (swapB l j).Perm l := by
  unfold swapB
  have e1 : atB l j = l[j] := by simp [atB, List.getD_eq_getElem?_getD, hj]
  have e2 : atB l (j - 1) = l[j - 1] := by simp [atB, List.getD_eq_getElem?_getD, show j - 1 < l.length by omega]
  rw [e1, e2]
  exact List.set_set_perm (by omega) hj
theorem srt_swap {l : List ByteArray} {i j : Nat} (h : SrtBut l i j) (h0 : 0 < j) (hj : j ≤ i) (hi : i < l.length) (hlt : lessB (atB l j) (atB l (j - 1)) = true) : SrtBut (swapB l j) i (j - 1) := by
  intro a b hab hb hne
  rw [at_swap h0 (by omega), at_swap h0 (by omega)]
  have asym := lt_asymm hlt
  split
  · subst_vars
    split
    · omega
    · split
      · exact asym
      · exact h a (b - 1) (by omega) (by omega) (by omega)
  · rename_i hbj
    split
    · subst_vars
      exact h (a - 1) b (by omega) hb hbj
    · split
      · subst_vars
        exact h j b (by omega) hb hbj
      · exact h a b hab hb hbj
theorem nlt_trans {a b c : ByteArray} (h : lessB b a = false) (k : lessB c b = false) : lessB c a = false := by
  rcases lt_tri c a with e | e | e
  · rcases lt_tri b a with f | f | f
    · rw [h] at f; cases f
    · subst f; rw [k] at e; cases e
    · rw [lt_trans e f] at k; cases k
  · subst e; exact lt_irrefl _
  · exact lt_asymm e
theorem srt_stop {l : List ByteArray} {i j : Nat} (h : SrtBut l i j) (hj : j ≤ i) (hs : j = 0 ∨ lessB (atB l j) (atB l (j - 1)) = false) : Srt l (i + 1) := by
  intro a b hab hb
  by_cases e : b = j
  · subst e
    rcases hs with hs | hs
    · omega
    · by_cases f : a = b - 1
      · subst f; exact hs
      · exact nlt_trans (h a (b - 1) (by omega) (by omega) (by omega)) hs
  · exact h a b hab (by omega) e
theorem sorted_of_srt {l : List ByteArray} (h : Srt l l.length) : l.Pairwise fun a b => lessB b a = false := by
  rw [List.pairwise_iff_getElem]
  intro a b ha hb hab
  have := h a b hab hb
  simpa [atB, List.getD_eq_getElem?_getD, ha, hb] using this
theorem canon_of_sorted {l m o : List ByteArray} (hs : Srt m m.length) (hp : m.Perm o) (hn : o.Nodup) (hm : ∀ x, x ∈ o ↔ x ∈ l) : m = canonL l :=
  asc_unique _ _ (asc_of_sorted (sorted_of_srt hs) (hp.nodup_iff.2 hn)) (asc_canonL l) (fun x => by rw [hp.mem_iff, hm, mem_canonL])
end Go.Proofs.Ytnjmhlhlmokjnaa.G
namespace Go.Proofs.Ytnjmhlhlmokjnaa.G
open Go.RowKit Go.Maps Go.Proofs.YtnjmhlhlmokjnaaW.PrintWords Go.Proofs.YtnjmhlhlmokjnaaW.PrintLast
set_option linter.unusedVariables false
set_option linter.unusedSimpArgs false
instance (s : ByteArray) : Decidable (fine s) := by unfold fine; infer_instance
def impl_sortedSet.f (l : List ByteArray) : Option (List ByteArray) := if l.length ≤ 1000000 ∧ ∀ s ∈ l, fine s then some (canonL l) else none
theorem rd_mem {l : List ByteArray} {j : Nat} (h : j < l.length) : rdOf ByteArray.empty l (j : Int) ∈ l := by
  rw [rdOf_nat _ _ _ h]
  exact List.getElem_mem h
theorem mem_take_step {l : List ByteArray} {j : Nat} (h : j < l.length) (x : ByteArray) : x ∈ l.take (j + 1) ↔ x = rdOf ByteArray.empty l (j : Int) ∨ x ∈ l.take j := by
  rw [rdOf_nat _ _ _ h, List.take_succ_eq_append_getElem h]
  rw [List.mem_append, List.mem_singleton, or_comm]
theorem len_le_of {α : Type} [DecidableEq α] : ∀ (xs l : List α), xs.Nodup → (∀ x ∈ xs, x ∈ l) → xs.length ≤ l.length
  | [], _, _, _ => Nat.zero_le _
  | x :: xs, l, h, hs => by
    have h' := List.nodup_cons.1 h
    have := len_le_of xs (l.erase x) h'.2 (fun y hy => (List.mem_erase_of_ne (fun e => h'.1 (by rw [← e]; exact hy))).2 (hs y (by simp [hy])))
    have h2 := List.length_erase_of_mem (hs x (by simp))
    have h3 := List.length_pos_of_mem (hs x (by simp))
    simp only [List.length_cons]
    omega
theorem gtr_eq (y x : ByteArray) : (!Op.bytesLess y.toList x.toList && !y.toList == x.toList) = lessB x y := by
  rcases lt_tri y x with h | h | h
  · have h2 := lt_asymm h
    unfold lessB at h h2 ⊢
    rw [h2, h]; rfl
  · subst h
    rw [lt_irrefl]
    simp
  · have h2 := lt_asymm h
    have h3 : (y.toList == x.toList) = false := by
      rw [beq_eq_false_iff_ne]
      intro e
      exact lt_ne h (toList_inj e).symm
    unfold lessB at h2
    rw [h2, h3, h]; rfl
structure Gath (l0 : List ByteArray) (L : ByteArray → Bool) (xs : List ByteArray) : Prop where
  nodup : xs.Nodup
  mem : ∀ x ∈ xs, x ∈ l0 ∧ L x = false
  all : ∀ x ∈ l0, fine x → L x = false → x ∈ xs
theorem Gath.step {l0 : List ByteArray} {L : ByteArray → Bool} {xs : List ByteArray} (h : Gath l0 L xs) {s : ByteArray} (hs : s ∈ l0) (hL : L s = true) : Gath l0 (fun x => L x && !decide (x = s)) (xs ++ [s]) where
  nodup := by
    rw [List.nodup_append]
    refine ⟨h.nodup, by simp, ?_⟩
    intro a ha b hb
    rw [List.mem_singleton.1 hb]
    rintro rfl
    have := (h.mem _ ha).2
    rw [hL] at this; cases this
  mem := by
    intro x hx
    rcases List.mem_append.1 hx with hx | hx
    · exact ⟨(h.mem x hx).1, by simp [(h.mem x hx).2]⟩
    · rw [List.mem_singleton.1 hx]; exact ⟨hs, by simp⟩
  all := by
    intro x hx hf hl
    by_cases e : x = s
    · simp [e]
    · have : L x = false := by simpa [e] using hl
      simp [h.all x hx hf this]
theorem Gath.perm {l0 : List ByteArray} {L : ByteArray → Bool} {xs : List ByteArray} (h : Gath l0 L xs) (hf : ∀ s ∈ l0, fine s) (hd : ∀ s, fine s → L s = false) (x : ByteArray) : x ∈ xs ↔ x ∈ l0 :=
  ⟨fun hx => (h.mem x hx).1, fun hx => h.all x hx (hf x hx) (hd x (hf x hx))⟩
set_option maxHeartbeats 8000000 in
set_option maxRecDepth 100000 in
theorem impl_sortedSet.calls (A0 : Option Addr) (c0 : Nat) (l0 : List ByteArray) (r : List ByteArray) (w : World) (hr0 : Kd.C Kd.string w A0 l0.length l0) (hc0 : l0.length ≤ c0) (h : impl_sortedSet.f l0 = some r) :
    Calls Try.prog 69 #[.slice A0 l0.length c0] w fun e w' => ∃ v0_, e = .returned (v0_) ∧ Kd.R Kd.string 9 w' w.heap.size (fun _ => True) v0_ r ∧ Below w.heap.size w w' := by
  have HR := Aside0.mk hr0
  clear hr0 hc0
  unfold impl_sortedSet.f at h
  have hcond : l0.length ≤ 1000000 ∧ ∀ s ∈ l0, fine s := by
    by_cases c : l0.length ≤ 1000000 ∧ ∀ s ∈ l0, fine s
    · exact c
    · rw [if_neg c] at h; cases h
  rw [if_pos hcond] at h
  obtain rfl := Option.some.inj h
  clear h
  obtain ⟨hlen, hf⟩ := hcond
  have HF := Aside0.mk hf
  clear hf
  have hmm := @run_makeMap Try.prog
  go_enter Try.func69, Try.ntmps69
  go_wp2
  go_loopw [13] (fun i wr => ∃ (j : Nat) (S : ByteArray → Bool), j ≤ l0.length ∧ i = .int .i64 j ∧ Aside0 (SetM wr w.heap.size j S) ∧ Aside0 (∀ x, S x = true ↔ x ∈ l0.take j) ∧ Aside0 (Below w.heap.size w wr)) (fun i _ => l0.length - (intOf i).toNat)
  case atStart => exact ⟨0, _, Nat.zero_le _, rfl, ⟨SetM.made w⟩, ⟨by simp⟩, ⟨below_alloc (Below.refl _ _) _⟩⟩
  case round =>
    obtain ⟨j, S, hj, rfl, HS, HM, HB⟩ := hrel
    by_cases hlt : j < l0.length
    · obtain ⟨ad, hA, x0⟩ := Kd.at_string HR.out (j : Int) (by omega) (by omega)
      cases hA
      obtain ⟨u, hu0⟩ : ∃ u, u = rdOf ByteArray.empty l0 (j : Int) := ⟨_, rfl⟩
      rw [← hu0] at x0
      simp only [Int.toNat_natCast] at x0
      have HU := Aside0.mk hu0
      replace x0 := (HB.out.cell (World.block_lt_of_cell? w _ x0)).trans x0
      have HFu : fine u := by rw [hu0]; exact HF.out _ (rd_mem hlt)
      clear hu0
      go_wp2_with (first | (at_mapUpdate; refine wpList_set_put _ rfl _ _ _ rfl w.heap.size j S u rfl rfl rfl HS.out (by omega) HFu ?_; intro w1 hs1 hg1) | fail)
      go_roundw
      case rel =>
        refine ⟨j + 1, _, hlt, ?_, ⟨hs1⟩, ⟨fun x => ?_⟩, ⟨?_⟩⟩
        · simp
        · rw [mem_take_step hlt, ← HM.out x, ← HU.out]
          simp
        · exact HB.out.grown hg1 HB.out.size (fun k hk => by cases hk; exact Nat.le_refl _)
      case measure => simp [intOf]; omega
    · have hje : j = l0.length := by omega
      subst hje
      go_wp2_with (first | ((with_reducible refine gate_dst (N := 20) rfl ?_); refine Kd.R_lit Kd.string (w0 := w) w.heap.size 9 ?hg (N := 20) ?hd (xs := ([] : List ByteArray)) (inner := []) (ok := fun k => k ≠ w.heap.size) (okp := fun _ => False) ?hr ?hp (fun _ hk => hk.elim) ?hf HB.out HB.out.size (by simp) ?_; (case hd => rfl); (case hg => rfl); (case hf => exact Nat.ne_of_gt HS.out.lt); (case hr => first | (go_simp; done) | (go_simp; rfl)); (case hp => exact (Reps.none _ _)); intro v w3 ho hb hg_ hnew_) | (at_range; refine wpList_set_range _ rfl _ rfl w.heap.size l0.length S rfl (HS.out.grown hg_ (by simp)) ?_; intro w4 cnt4 hr4 hg4 hs4) | fail)
      go_frame
      have HO4 := Aside0.mk (Kd.R_mono (ok' := fun k => k ≠ w.heap.size ∧ k ≠ w3.heap.size) (Kd.R_grown (Kd.R_bound ho) hg4 (fun k hk => by simp)) (fun k hk => ⟨hk.1, Nat.ne_of_lt hk.2.2.1⟩))
      have HB4 := Aside0.mk (hb.grown hg4 hb.size (fun k hk => by cases hk))
      have HR4 := Aside0.mk hr4
      have hrb : w.heap.size < w3.heap.size := Nat.lt_of_lt_of_le HS.out.lt hg_.size
      have hbs : w3.heap.size < w4.heap.size := by omega
      obtain ⟨rb, hrbe⟩ : ∃ rb, rb = w3.heap.size := ⟨_, rfl⟩
      rw [← hrbe] at hrb hbs HR4 HO4 ⊢
      clear hrbe ho hb hg_ hnew_ hr4 hg4 hs4
      have HG4 : Aside0 (Gath l0 S []) := ⟨⟨List.nodup_nil, by simp, fun x hx _ hn => by
        have := (HM.out x).2 (by rw [List.take_length]; exact hx)
        rw [hn] at this; cases this⟩⟩
      go_loopw [6] (fun v6 wr => ∃ (L : ByteArray → Bool) (cnt : Nat) (xs : List ByteArray), Aside0 (SetR wr w.heap.size rb l0.length S L cnt) ∧ Aside0 (Kd.R Kd.string 9 wr w.heap.size (fun k => k ≠ w.heap.size ∧ k ≠ rb) v6 xs) ∧ Aside0 (Gath l0 L xs) ∧ Aside0 (Below w.heap.size w wr) ∧ rb < wr.heap.size) (fun _ wr => wr.rangeLeft w.heap.size rb)
      case atStart => exact ⟨_, _, _, HR4, HO4, HG4, HB4, hbs⟩
      case round =>
        clear HR4 HO4 HG4 HB4 hbs
        obtain ⟨L, cnt, xs, HRr, HO, HG, HBr, hsz⟩ := hrel
        go_wp2_with (first | (at_next; refine wpList_set_next _ rfl _ rfl w.heap.size rb l0.length S L cnt rfl HRr.out ?_ ?_) | fail)
        · intro hdone
          have hperm := fun x => HG.out.perm HF.out hdone x
          have hnd := HG.out.nodup
          have hxl : xs.length ≤ l0.length := len_le_of xs l0 hnd (fun x hx => (HG.out.mem x hx).1)
          have HP := Aside0.mk (And.intro hnd hperm)
          clear hnd hperm hdone HRr HG
          go_wp2_with fail
          go_loopw [8] (fun i wr => ∃ (k : Nat) (ys : List ByteArray), 1 ≤ k ∧ k ≤ 1000001 ∧ i = .int .i64 k ∧ Aside0 (Kd.R Kd.string 9 wr w.heap.size (fun k => k ≠ w.heap.size ∧ k ≠ rb) u6 ys) ∧ Aside0 (ys.Perm xs) ∧ Aside0 (Srt ys k) ∧ Aside0 (Below w.heap.size w wr)) (fun i _ => xs.length - (intOf i).toNat)
          case atStart => exact ⟨1, xs, Nat.le_refl _, by omega, rfl, HO, ⟨List.Perm.refl _⟩, ⟨srt_one _⟩, HBr⟩
          case round =>
            clear HO HBr
            obtain ⟨k, ys, hk1, hk2, rfl, HO, HPm, HS, HBr⟩ := hrel
            have hyl : ys.length = xs.length := HPm.out.length_eq
            by_cases hlt : k < ys.length
            · obtain ⟨g, co, rfl, hgb, hgl, hgc, hGG⟩ := Kd.R_form HO.out (by omega)
              rw [hyl] at HO hlt ⊢
              have hd1 : decide ((k : Int) < (xs.length : Int)) = true := decide_eq_true (by omega)
              go_wp2_with fail
              go_loopw [9] (fun i wr => ∃ (j : Nat) (zs : List ByteArray), j ≤ k ∧ i = .int .i64 j ∧ Aside0 (Kd.R Kd.string 9 wr w.heap.size (fun k => k ≠ w.heap.size ∧ k ≠ rb) (.slice (some ⟨g, 0, none⟩) xs.length co) zs) ∧ Aside0 (zs.Perm xs) ∧ Aside0 (SrtBut zs k j) ∧ Aside0 (Below w.heap.size w wr)) (fun i _ => (intOf i).toNat)
              case atStart => exact ⟨k, ys, Nat.le_refl _, rfl, HO, HPm, ⟨srt_start HS.out⟩, HBr⟩
              case round =>
                clear HO HPm HS HBr hGG hgl
                obtain ⟨j, zs, hjk, rfl, HO, HPm, HS, HBr⟩ := hrel
                have hzl : zs.length = xs.length := HPm.out.length_eq
                have stop : Aside0 (j = 0 ∨ lessB (atB zs j) (atB zs (j - 1)) = false) → Aside0 (Srt zs (k + 1)) := fun h => ⟨srt_stop HS.out hjk h.out⟩
                by_cases hj0 : 0 < j
                · have h0a : decide ((0 : Int) < (j : Int)) = true := decide_eq_true (by omega)
                  have h0b : decide (0 < j) = true := decide_eq_true (by omega)
                  have q0 : ((j : Int) - 1).toNat = j - 1 := by omega
                  have q1 : (j : Int) - 1 = ((j - 1 : Nat) : Int) := by omega
                  obtain ⟨cj, fj⟩ := Kd.R_celln (⟨#[]⟩ : ByteArray) HO.out (j : Int) (by omega) (by omega)
                  obtain ⟨ci, fi⟩ := Kd.R_celln (⟨#[]⟩ : ByteArray) HO.out (j - 1 : Int) (by omega) (by omega)
                  have ex : rdOf (⟨#[]⟩ : ByteArray) zs (j : Int) = atB zs j := rfl
                  have ey : rdOf (⟨#[]⟩ : ByteArray) zs ((j : Int) - 1) = atB zs (j - 1) := by unfold rdOf atB; rw [q0]; rfl
                  rw [ex] at cj
                  rw [ey] at ci
                  rw [q0] at ci fi
                  simp only [Int.toNat_natCast] at cj fj
                  obtain ⟨x, hx⟩ : ∃ x, x = atB zs j := ⟨_, rfl⟩
                  obtain ⟨y, hy⟩ : ∃ y, y = atB zs (j - 1) := ⟨_, rfl⟩
                  rw [← hx] at cj stop
                  rw [← hy] at ci stop
                  have hw1 : IntKind.i64.wrap ((j : Int) - 1) = (j : Int) - 1 := IntWalk.i64_in _ ⟨by omega, by omega⟩
                  have hge : (0 : Int) ≤ (j : Int) - 1 := by omega
                  have hlt1 : (j : Int) - 1 < (xs.length : Int) := by omega
                  have hlt2 : (j : Int) < (xs.length : Int) := by omega
                  have hlt3 : j < xs.length := by omega
                  have HX := Aside0.mk hx
                  have HY := Aside0.mk hy
                  clear hx hy ex ey
                  cases hC : lessB x y with
                  | false =>
                    have hC' : (!Op.bytesLess y.toList x.toList && !y.toList == x.toList) = false := (gtr_eq y x).trans hC
                    have HSt := stop ⟨.inr hC⟩
                    go_wp2_with fail
                    go_quiet (fail)
                    go_wp2_with fail
                    go_roundw
                    case rel => exact ⟨k + 1, zs, by omega, by omega, by simp, ⟨Kd.R_drewN HO.out _⟩, HPm, HSt, ⟨pw_below_drewN HBr.out _⟩⟩
                    case measure => simp [intOf]; omega
                  | true =>
                    have hC' : (!Op.bytesLess y.toList x.toList && !y.toList == x.toList) = true := (gtr_eq y x).trans hC
                    go_wp2_with fail
                    go_quiet (fail)
                    have HO1 := Aside0.mk (Kd.R_drewN HO.out nq)
                    have HB1 := Aside0.mk (pw_below_drewN HBr.out nq)
                    generalize wr.drewN nq = w1 at HO1 HB1 ⊢
                    clear HO HBr cj ci fj fi
                    obtain ⟨cj, fj⟩ := Kd.R_celln (⟨#[]⟩ : ByteArray) HO1.out (j : Int) (by omega) (by omega)
                    obtain ⟨ci, fi⟩ := Kd.R_celln (⟨#[]⟩ : ByteArray) HO1.out (j - 1 : Int) (by omega) (by omega)
                    rw [show rdOf (⟨#[]⟩ : ByteArray) zs (j : Int) = x from HX.out.symm ▸ rfl] at cj
                    rw [show rdOf (⟨#[]⟩ : ByteArray) zs ((j : Int) - 1) = y by rw [HY.out]; unfold rdOf atB; rw [q0]; rfl] at ci
                    rw [q0] at ci fi
                    simp only [Int.toNat_natCast] at cj fj
                    have HP2 : Aside0 (Kd.R Kd.string 9 ((w1.setCell ⟨g, j - 1, none⟩ (.string x)).setCell ⟨g, j, none⟩ (.string y)).drew w.heap.size (fun k => k ≠ w.heap.size ∧ k ≠ rb) (.slice (some ⟨g, 0, none⟩) xs.length co) (swapB zs j)) := ⟨by
                      unfold swapB
                      rw [← HX.out, ← HY.out]
                      exact Kd.R_drew (Kd.R_putn (Kd.R_putn HO1.out ((j - 1 : Nat) : Int) x) ((j : Nat) : Int) y)⟩
                    have HB2 : Aside0 (Below w.heap.size w ((w1.setCell ⟨g, j - 1, none⟩ (.string x)).setCell ⟨g, j, none⟩ (.string y)).drew) := ⟨below_drew1 (below_set (below_set HB1.out hgb) hgb)⟩
                    go_wp2_with fail
                    go_region
                    go_wp2_with fail
                    go_roundw
                    case rel =>
                      exact ⟨j - 1, swapB zs j, by omega, rfl, HP2, ⟨(swap_perm hj0 (by omega)).trans HPm.out⟩, ⟨srt_swap HS.out hj0 hjk (by omega) (by rw [← HX.out, ← HY.out]; exact hC)⟩, HB2⟩
                    case measure => simp [intOf]; omega
                · have hj1 : j = 0 := by omega
                  subst hj1
                  have HSt := stop ⟨.inl rfl⟩
                  go_wp2_with fail
                  go_quiet (fail)
                  go_wp2_with fail
                  go_roundw
                  case rel => exact ⟨k + 1, zs, by omega, by omega, by simp, ⟨Kd.R_drewN HO.out _⟩, HPm, HSt, ⟨pw_below_drewN HBr.out _⟩⟩
                  case measure => simp [intOf]; omega
            · have hd1 : decide ((k : Int) < (xs.length : Int)) = false := decide_eq_false (by omega)
              obtain ⟨A6, c6, rfl⟩ := Kd.R_slice HO.out
              have hres : ys = canonL l0 := canon_of_sorted (o := xs) (fun a b hab hb => HS.out a b hab (by omega)) HPm.out HP.out.1 HP.out.2
              rw [hyl] at HO ⊢
              go_wp2_with fail
              go_ret
              exact ⟨_, rfl, by rw [← hres]; exact Kd.R_mono HO.out (fun _ _ => trivial), HBr.out⟩
        · intro s w5 cnt5 hfs hLs hSs hr5 hlt5 hg5 hs5 hen5
          have hsl : s ∈ l0 := by
            have := (HM.out s).1 hSs
            rwa [List.take_length] at this
          have hO5 := Kd.R_grown HO.out hg5 (fun k hk => by simpa using hk.2)
          have hB5 := HBr.out.grown hg5 HBr.out.size (fun k hk => by cases hk; omega)
          have hxl : xs.length ≤ l0.length := len_le_of xs l0 HG.out.nodup (fun x hx => (HG.out.mem x hx).1)
          have hsz5 : rb < w5.heap.size := by omega
          clear hs5
          go_wp2_with (first | ((with_reducible refine gate_builtin (b := .append) (xs := #[.tmp 27, .tmp 29]) rfl ?_); at_builtin; refine Kd.R_append Kd.string (w0 := w) w.heap.size rfl (.tmp 27) (.tmp 29) 25 9 (.string ⟨#[]⟩) 16 rfl Try.underlying25 info9 rfl (by decide) (by omega) u6 xs s [.string s] (fun k => k ≠ w.heap.size ∧ k ≠ rb) (fun _ => False) rfl rfl ?aP (fun _ hk => hk.elim) ?aF hO5 hB5 ?aS ?aL ?_; (case aP => exact rfl); (case aF => exact (fun k hk => ⟨by omega, by omega⟩)); (case aS => omega); (case aL => omega); intro v1 w1 ho1 hb1 hg1 hat1) | fail)
          go_roundw
          case rel => exact ⟨_, _, _, ⟨hr5.move hg1 (fun e => (HO.out.1 _ e.symm).1 rfl) (fun e => (HO.out.1 _ e.symm).2 rfl)⟩, ⟨ho1⟩, ⟨HG.out.step hsl hLs⟩, ⟨hb1⟩, Nat.lt_of_lt_of_le hsz5 hg1.size⟩
          case measure =>
            rw [(hr5.move hg1 (fun e => (HO.out.1 _ e.symm).1 rfl) (fun e => (HO.out.1 _ e.symm).2 rfl)).left_eq, HRr.out.left_eq]
            exact hlt5
end Go.Proofs.Ytnjmhlhlmokjnaa.G
namespace Go.Proofs.Ytnjmhlhlmokjnaa.G
set_option linter.unusedVariables false
set_option linter.unusedSimpArgs false
open Go.RowKit Go.Proofs.YtnjmhlhlmokjnaaW.PrintWords Go.Proofs.YtnjmhlhlmokjnaaW.PrintLast
set_option maxHeartbeats 8000000 in
set_option maxRecDepth 100000 in
theorem impl_UnitsOk.calls (A0 : Option Addr) (c0 : Nat) (l0 : List S32) (r : Bool) (w : World) (hr0 : Kd.C k32 w A0 l0.length l0) (hc0 : l0.length ≤ c0) (h : impl_UnitsOk.f l0 = some r) :
    Calls Try.prog 14 #[.slice A0 l0.length c0] w fun e w' => e = .returned (.bool r) ∧ Below w.heap.size w w' := by
  have hu := Try.underlying32
  have HR := Aside0.mk hr0
  clear hr0 hc0
  injection h with h
  by_cases hl : 100 < l0.length
  · have hd : decide ((100 : Int) < (l0.length : Int)) = true := decide_eq_true (by omega)
    have hd2 : decide (100 < l0.length) = true := decide_eq_true (by omega)
    have hr : r = false := by rw [← h]; unfold unitsOkB; rw [decide_eq_false (by omega)]; rfl
    subst hr
    clear h hl
    go_enter Try.func14, Try.ntmps14
    go_wp2
    go_ret
    exact ⟨rfl, Below.refl _ _⟩
  · have hd : decide ((100 : Int) < (l0.length : Int)) = false := decide_eq_false (by omega)
    have hd2 : decide (100 < l0.length) = false := decide_eq_false (by omega)
    have hm : l0.length ≤ 100 := by omega
    have H : Aside0 (okFrom l0 0 l0.length = r) := ⟨by rw [← h]; unfold unitsOkB; rw [decide_eq_true hm]; rfl⟩
    clear h hl
    go_enter Try.func14, Try.ntmps14
    go_wp2
    go_loopw [10] (fun i wr => ∃ j : Nat, j ≤ l0.length ∧ i = .int .i64 j ∧ Aside0 (okFrom l0 j (l0.length - j) = r) ∧ Below w.heap.size w wr) (fun i _ => l0.length - (intOf i).toNat)
    case atStart => exact ⟨0, Nat.zero_le _, rfl, H, Below.refl _ _⟩
    case round =>
      obtain ⟨j, hj, rfl, HJ, hB⟩ := hrel
      clear H
      by_cases hlt : j < l0.length
      · have HRr := Aside0.mk (Kd.C_below HR.out hB)
        obtain ⟨ad, A1, c1, A2, c2, hA, x0, x1, x2, x3, x4, l1, g1, l2, g2⟩ := at_T32 HRr.out (j : Int) (by omega) (by omega)
        have G1 := Aside0.mk g1
        have G2 := Aside0.mk g2
        have L1 := Aside0.mk l1
        have L2 := Aside0.mk l2
        clear g1 g2 l1 l2
        cases hA
        simp only [Int.toNat_natCast] at x0 x1 x2 x3 x4
        obtain ⟨u, hu0⟩ : ∃ u, u = rd_T32 l0 (j : Int) := ⟨_, rfl⟩
        have HU := Aside0.mk hu0
        rw [← hu0] at x0 x1 x2 x3 x4 G1 G2 L1 L2
        clear hu0
        go_wp2_with fail
        have hBW := hB.alloc (by simpa using hB.size) (.cells #[Value.string u.f0, Value.slice A1 u.f1.length c1, Value.slice A2 u.f2.length c2, Value.string u.f3, Value.bool u.f4] 32)
        by_cases hj0 : j = 0
        · have h0a : decide ((0 : Int) < (j : Int)) = false := decide_eq_false (by omega)
          have h0b : decide (0 < j) = false := decide_eq_false (by omega)
          have HZ := Aside0.mk hj0
          clear hj0
          cases hN : nameOkB u.f0 with
          | false =>
            have N1 := nameOk_c u.f0 false hN
            have HS := Aside0.mk (step_name HU.out hN)
            go_quiet ((first | (go_at_call 49; exact Calls.quiet_of (N1 _))))
            go_wp2_with fail
            go_ret
            exact ⟨by rw [ok_stop HJ.out hlt HS.out]; rfl, pw_below_drewN hBW _⟩
          | true =>
            have N1 := nameOk_c u.f0 true hN
            cases hC1 : decide (u.f1.length ≤ 20) with
            | false =>
              have he1 : decide ((20 : Int) < (u.f1.length : Int)) = true := decide_eq_true (by first | (have := of_decide_eq_false hC1; omega) | (have := of_decide_eq_true hC1; omega))
              have hf1 : decide (20 < u.f1.length) = true := decide_eq_true (by first | (have := of_decide_eq_false hC1; omega) | (have := of_decide_eq_true hC1; omega))
              have HS := Aside0.mk (step_len1 HU.out hC1)
              go_quiet ((first | (go_at_call 49; exact Calls.quiet_of (N1 _))))
              go_wp2_with fail
              go_ret
              exact ⟨by rw [ok_stop HJ.out hlt HS.out]; rfl, pw_below_drewN hBW _⟩
            | true =>
              have he1 : decide ((20 : Int) < (u.f1.length : Int)) = false := decide_eq_false (by first | (have := of_decide_eq_false hC1; omega) | (have := of_decide_eq_true hC1; omega))
              have hf1 : decide (20 < u.f1.length) = false := decide_eq_false (by first | (have := of_decide_eq_false hC1; omega) | (have := of_decide_eq_true hC1; omega))
              cases hC2 : decide (u.f2.length ≤ 20) with
              | false =>
                have he2 : decide ((20 : Int) < (u.f2.length : Int)) = true := decide_eq_true (by first | (have := of_decide_eq_false hC2; omega) | (have := of_decide_eq_true hC2; omega))
                have hf2 : decide (20 < u.f2.length) = true := decide_eq_true (by first | (have := of_decide_eq_false hC2; omega) | (have := of_decide_eq_true hC2; omega))
                have HS := Aside0.mk (step_len2 HU.out hC2)
                go_quiet ((first | (go_at_call 49; exact Calls.quiet_of (N1 _))))
                go_wp2_with fail
                go_ret
                exact ⟨by rw [ok_stop HJ.out hlt HS.out]; rfl, pw_below_drewN hBW _⟩
              | true =>
                have he2 : decide ((20 : Int) < (u.f2.length : Int)) = false := decide_eq_false (by first | (have := of_decide_eq_false hC2; omega) | (have := of_decide_eq_true hC2; omega))
                have hf2 : decide (20 < u.f2.length) = false := decide_eq_false (by first | (have := of_decide_eq_false hC2; omega) | (have := of_decide_eq_true hC2; omega))
                cases hU1 : upB u.f1 with
                | false =>
                  have HS := Aside0.mk (step_up1 HU.out hU1)
                  go_quiet ((first | (go_at_call 49; exact Calls.quiet_of (N1 _)) | (go_at_call_of 50 (Value.slice A1 u.f1.length c1); exact Calls.quiet_of (up_c A1 c1 u.f1 _ hU1 _ (Kd.C_drewN (Kd.C_alloc G1.out _) _) L1.out))))
                  go_wp2_with fail
                  go_ret
                  exact ⟨by rw [ok_stop HJ.out hlt HS.out]; rfl, pw_below_drewN hBW _⟩
                | true =>
                  cases hU2 : upB u.f2 with
                  | false =>
                    have HS := Aside0.mk (step_up2 HU.out hU2)
                    go_quiet ((first | (go_at_call 49; exact Calls.quiet_of (N1 _)) | (go_at_call_of 50 (Value.slice A1 u.f1.length c1); exact Calls.quiet_of (up_c A1 c1 u.f1 _ hU1 _ (Kd.C_drewN (Kd.C_alloc G1.out _) _) L1.out)) | (go_at_call_of 50 (Value.slice A2 u.f2.length c2); exact Calls.quiet_of (up_c A2 c2 u.f2 _ hU2 _ (Kd.C_drewN (Kd.C_alloc G2.out _) _) L2.out))))
                    go_wp2_with fail
                    go_ret
                    exact ⟨by rw [ok_stop HJ.out hlt HS.out]; rfl, pw_below_drewN hBW _⟩
                  | true =>
                    cases hE : decide (u.f3.size ≤ 4000) with
                    | false =>
                      have hze : decide ((4000 : Int) < (u.f3.size : Int)) = true := decide_eq_true (by first | (have := of_decide_eq_false hE; omega) | (have := of_decide_eq_true hE; omega))
                      have hzf : decide (4000 < u.f3.size) = true := decide_eq_true (by first | (have := of_decide_eq_false hE; omega) | (have := of_decide_eq_true hE; omega))
                      have HS := Aside0.mk (step_size HU.out hE)
                      go_quiet ((first | (go_at_call 49; exact Calls.quiet_of (N1 _)) | (go_at_call_of 50 (Value.slice A1 u.f1.length c1); exact Calls.quiet_of (up_c A1 c1 u.f1 _ hU1 _ (Kd.C_drewN (Kd.C_alloc G1.out _) _) L1.out)) | (go_at_call_of 50 (Value.slice A2 u.f2.length c2); exact Calls.quiet_of (up_c A2 c2 u.f2 _ hU2 _ (Kd.C_drewN (Kd.C_alloc G2.out _) _) L2.out))))
                      go_wp2_with fail
                      go_ret
                      exact ⟨by rw [ok_stop HJ.out hlt HS.out]; rfl, pw_below_drewN hBW _⟩
                    | true =>
                      have hze : decide ((4000 : Int) < (u.f3.size : Int)) = false := decide_eq_false (by first | (have := of_decide_eq_false hE; omega) | (have := of_decide_eq_true hE; omega))
                      have hzf : decide (4000 < u.f3.size) = false := decide_eq_false (by first | (have := of_decide_eq_false hE; omega) | (have := of_decide_eq_true hE; omega))
                      have HS := Aside0.mk (step_true0 HU.out hN hC1 hC2 hU1 hU2 hE HZ.out)
                      go_quiet ((first | (go_at_call 49; exact Calls.quiet_of (N1 _)) | (go_at_call_of 50 (Value.slice A1 u.f1.length c1); exact Calls.quiet_of (up_c A1 c1 u.f1 _ hU1 _ (Kd.C_drewN (Kd.C_alloc G1.out _) _) L1.out)) | (go_at_call_of 50 (Value.slice A2 u.f2.length c2); exact Calls.quiet_of (up_c A2 c2 u.f2 _ hU2 _ (Kd.C_drewN (Kd.C_alloc G2.out _) _) L2.out))))
                      go_wp2_with fail
                      go_roundw
                      case rel => exact ⟨j + 1, by omega, by go_num, ⟨ok_next HJ.out hlt HS.out⟩, pw_below_drewN hBW _⟩
                      case measure => simp [intOf]; omega
        · have h0a : decide ((0 : Int) < (j : Int)) = true := decide_eq_true (by omega)
          have h0b : decide (0 < j) = true := decide_eq_true (by omega)
          obtain ⟨q, hq⟩ : ∃ q : Nat, j = q + 1 := ⟨j - 1, by omega⟩
          have hq1 : q < l0.length := by omega
          have hw : IntKind.i64.wrap ((j : Int) - 1) = (q : Int) := by rw [IntWalk.i64_in _ (by omega)]; omega
          have HP := Aside0.mk hq
          clear hq hj0
          obtain ⟨ad2, B1, e1, B2, e2, hA2, y0, _, _, _, _, _, _, _, _⟩ := at_T32 HRr.out (q : Int) (by omega) (by omega)
          obtain rfl : ad = ad2 := by injection hA2
          simp only [Int.toNat_natCast] at y0
          obtain ⟨v, hv0⟩ : ∃ v, v = rd_T32 l0 (q : Int) := ⟨_, rfl⟩
          have HV := Aside0.mk hv0
          rw [← hv0] at y0
          clear hv0
          have y1 := pw_cell_below (below_alloc (Below.refl _ _) (.cells #[Value.string u.f0, Value.slice A1 u.f1.length c1, Value.slice A2 u.f2.length c2, Value.string u.f3, Value.bool u.f4] 32)) y0
          cases hN : nameOkB u.f0 with
          | false =>
            have N1 := nameOk_c u.f0 false hN
            have HS := Aside0.mk (step_name HU.out hN)
            go_quiet ((first | (go_at_call 49; exact Calls.quiet_of (N1 _))))
            go_wp2_with fail
            go_ret
            exact ⟨by rw [ok_stop HJ.out hlt HS.out]; rfl, pw_below_drewN hBW _⟩
          | true =>
            have N1 := nameOk_c u.f0 true hN
            cases hL : Op.bytesLess v.f0.toList u.f0.toList with
            | false =>
              have HS := Aside0.mk (step_less HU.out hL HP.out HV.out)
              go_quiet ((first | (go_at_call 49; exact Calls.quiet_of (N1 _))))
              go_wp2_with fail
              go_ret
              exact ⟨by rw [ok_stop HJ.out hlt HS.out]; rfl, pw_below_drewN hBW _⟩
            | true =>
              cases hC1 : decide (u.f1.length ≤ 20) with
              | false =>
                have he1 : decide ((20 : Int) < (u.f1.length : Int)) = true := decide_eq_true (by first | (have := of_decide_eq_false hC1; omega) | (have := of_decide_eq_true hC1; omega))
                have hf1 : decide (20 < u.f1.length) = true := decide_eq_true (by first | (have := of_decide_eq_false hC1; omega) | (have := of_decide_eq_true hC1; omega))
                have HS := Aside0.mk (step_len1 HU.out hC1)
                go_quiet ((first | (go_at_call 49; exact Calls.quiet_of (N1 _))))
                go_wp2_with fail
                go_ret
                exact ⟨by rw [ok_stop HJ.out hlt HS.out]; rfl, pw_below_drewN hBW _⟩
              | true =>
                have he1 : decide ((20 : Int) < (u.f1.length : Int)) = false := decide_eq_false (by first | (have := of_decide_eq_false hC1; omega) | (have := of_decide_eq_true hC1; omega))
                have hf1 : decide (20 < u.f1.length) = false := decide_eq_false (by first | (have := of_decide_eq_false hC1; omega) | (have := of_decide_eq_true hC1; omega))
                cases hC2 : decide (u.f2.length ≤ 20) with
                | false =>
                  have he2 : decide ((20 : Int) < (u.f2.length : Int)) = true := decide_eq_true (by first | (have := of_decide_eq_false hC2; omega) | (have := of_decide_eq_true hC2; omega))
                  have hf2 : decide (20 < u.f2.length) = true := decide_eq_true (by first | (have := of_decide_eq_false hC2; omega) | (have := of_decide_eq_true hC2; omega))
                  have HS := Aside0.mk (step_len2 HU.out hC2)
                  go_quiet ((first | (go_at_call 49; exact Calls.quiet_of (N1 _))))
                  go_wp2_with fail
                  go_ret
                  exact ⟨by rw [ok_stop HJ.out hlt HS.out]; rfl, pw_below_drewN hBW _⟩
                | true =>
                  have he2 : decide ((20 : Int) < (u.f2.length : Int)) = false := decide_eq_false (by first | (have := of_decide_eq_false hC2; omega) | (have := of_decide_eq_true hC2; omega))
                  have hf2 : decide (20 < u.f2.length) = false := decide_eq_false (by first | (have := of_decide_eq_false hC2; omega) | (have := of_decide_eq_true hC2; omega))
                  cases hU1 : upB u.f1 with
                  | false =>
                    have HS := Aside0.mk (step_up1 HU.out hU1)
                    go_quiet ((first | (go_at_call 49; exact Calls.quiet_of (N1 _)) | (go_at_call_of 50 (Value.slice A1 u.f1.length c1); exact Calls.quiet_of (up_c A1 c1 u.f1 _ hU1 _ (Kd.C_drewN (Kd.C_alloc G1.out _) _) L1.out))))
                    go_wp2_with fail
                    go_ret
                    exact ⟨by rw [ok_stop HJ.out hlt HS.out]; rfl, pw_below_drewN hBW _⟩
                  | true =>
                    cases hU2 : upB u.f2 with
                    | false =>
                      have HS := Aside0.mk (step_up2 HU.out hU2)
                      go_quiet ((first | (go_at_call 49; exact Calls.quiet_of (N1 _)) | (go_at_call_of 50 (Value.slice A1 u.f1.length c1); exact Calls.quiet_of (up_c A1 c1 u.f1 _ hU1 _ (Kd.C_drewN (Kd.C_alloc G1.out _) _) L1.out)) | (go_at_call_of 50 (Value.slice A2 u.f2.length c2); exact Calls.quiet_of (up_c A2 c2 u.f2 _ hU2 _ (Kd.C_drewN (Kd.C_alloc G2.out _) _) L2.out))))
                      go_wp2_with fail
                      go_ret
                      exact ⟨by rw [ok_stop HJ.out hlt HS.out]; rfl, pw_below_drewN hBW _⟩
                    | true =>
                      cases hE : decide (u.f3.size ≤ 4000) with
                      | false =>
                        have hze : decide ((4000 : Int) < (u.f3.size : Int)) = true := decide_eq_true (by first | (have := of_decide_eq_false hE; omega) | (have := of_decide_eq_true hE; omega))
                        have hzf : decide (4000 < u.f3.size) = true := decide_eq_true (by first | (have := of_decide_eq_false hE; omega) | (have := of_decide_eq_true hE; omega))
                        have HS := Aside0.mk (step_size HU.out hE)
                        go_quiet ((first | (go_at_call 49; exact Calls.quiet_of (N1 _)) | (go_at_call_of 50 (Value.slice A1 u.f1.length c1); exact Calls.quiet_of (up_c A1 c1 u.f1 _ hU1 _ (Kd.C_drewN (Kd.C_alloc G1.out _) _) L1.out)) | (go_at_call_of 50 (Value.slice A2 u.f2.length c2); exact Calls.quiet_of (up_c A2 c2 u.f2 _ hU2 _ (Kd.C_drewN (Kd.C_alloc G2.out _) _) L2.out))))
                        go_wp2_with fail
                        go_ret
                        exact ⟨by rw [ok_stop HJ.out hlt HS.out]; rfl, pw_below_drewN hBW _⟩
                      | true =>
                        have hze : decide ((4000 : Int) < (u.f3.size : Int)) = false := decide_eq_false (by first | (have := of_decide_eq_false hE; omega) | (have := of_decide_eq_true hE; omega))
                        have hzf : decide (4000 < u.f3.size) = false := decide_eq_false (by first | (have := of_decide_eq_false hE; omega) | (have := of_decide_eq_true hE; omega))
                        have HS := Aside0.mk (step_true HU.out hN hL HP.out HV.out hC1 hC2 hU1 hU2 hE)
                        go_quiet ((first | (go_at_call 49; exact Calls.quiet_of (N1 _)) | (go_at_call_of 50 (Value.slice A1 u.f1.length c1); exact Calls.quiet_of (up_c A1 c1 u.f1 _ hU1 _ (Kd.C_drewN (Kd.C_alloc G1.out _) _) L1.out)) | (go_at_call_of 50 (Value.slice A2 u.f2.length c2); exact Calls.quiet_of (up_c A2 c2 u.f2 _ hU2 _ (Kd.C_drewN (Kd.C_alloc G2.out _) _) L2.out))))
                        go_wp2_with fail
                        go_roundw
                        case rel => exact ⟨j + 1, by omega, by go_num, ⟨ok_next HJ.out hlt HS.out⟩, pw_below_drewN hBW _⟩
                        case measure => simp [intOf]; omega
      · have hr : r = true := by
          have := HJ.out
          rw [show l0.length - j = 0 by omega] at this
          exact this.symm
        subst hr
        go_wp2
        go_ret
        exact ⟨rfl, hB⟩
end Go.Proofs.Ytnjmhlhlmokjnaa.G
namespace Go.Proofs.Ytnjmhlhlmokjnaa.G
set_option linter.unusedVariables false
set_option linter.unusedSimpArgs false
open Go.RowKit Go.Proofs.YtnjmhlhlmokjnaaW.PrintWords Go.Proofs.YtnjmhlhlmokjnaaW.PrintLast
set_option maxHeartbeats 8000000 in
set_option maxRecDepth 100000 in
theorem spec_UnitsOk.calls (A0 : Option Addr) (c0 : Nat) (l0 : List S32) (r : Bool) (w : World) (hr0 : Kd.C k32 w A0 l0.length l0) (hc0 : l0.length ≤ c0) (h : spec_UnitsOk.f l0 = some r) :
    Calls Try.prog 13 #[.slice A0 l0.length c0] w fun e w' => e = .returned (.bool r) ∧ Below w.heap.size w w' := by
  have hu := Try.underlying32
  have HR := Aside0.mk hr0
  clear hr0 hc0
  injection h with h
  by_cases hl : 100 < l0.length
  · have hd : decide ((100 : Int) < (l0.length : Int)) = true := decide_eq_true (by omega)
    have hd2 : decide (100 < l0.length) = true := decide_eq_true (by omega)
    have hr : r = false := by rw [← h]; unfold unitsOkB; rw [decide_eq_false (by omega)]; rfl
    subst hr
    clear h hl
    go_enter Try.func13, Try.ntmps13
    go_wp2
    go_ret
    exact ⟨rfl, Below.refl _ _⟩
  · have hd : decide ((100 : Int) < (l0.length : Int)) = false := decide_eq_false (by omega)
    have hd2 : decide (100 < l0.length) = false := decide_eq_false (by omega)
    have hm : l0.length ≤ 100 := by omega
    have H : Aside0 (okFrom l0 0 l0.length = r) := ⟨by rw [← h]; unfold unitsOkB; rw [decide_eq_true hm]; rfl⟩
    clear h hl
    go_enter Try.func13, Try.ntmps13
    go_wp2
    go_loopw [3] (fun i wr => ∃ j : Nat, j ≤ l0.length ∧ i = .int .i64 j ∧ Aside0 (okFrom l0 j (l0.length - j) = r) ∧ Below w.heap.size w wr) (fun i _ => l0.length - (intOf i).toNat)
    case atStart => exact ⟨0, Nat.zero_le _, rfl, H, Below.refl _ _⟩
    case round =>
      obtain ⟨j, hj, rfl, HJ, hB⟩ := hrel
      clear H
      by_cases hlt : j < l0.length
      · have HRr := Aside0.mk (Kd.C_below HR.out hB)
        obtain ⟨ad, A1, c1, A2, c2, hA, x0, x1, x2, x3, x4, l1, g1, l2, g2⟩ := at_T32 HRr.out (j : Int) (by omega) (by omega)
        have G1 := Aside0.mk g1
        have G2 := Aside0.mk g2
        have L1 := Aside0.mk l1
        have L2 := Aside0.mk l2
        clear g1 g2 l1 l2
        cases hA
        simp only [Int.toNat_natCast] at x0 x1 x2 x3 x4
        obtain ⟨u, hu0⟩ : ∃ u, u = rd_T32 l0 (j : Int) := ⟨_, rfl⟩
        have HU := Aside0.mk hu0
        rw [← hu0] at x0 x1 x2 x3 x4 G1 G2 L1 L2
        clear hu0
        go_wp2_with fail
        have hBW := hB.alloc (by simpa using hB.size) (.cells #[Value.string u.f0, Value.slice A1 u.f1.length c1, Value.slice A2 u.f2.length c2, Value.string u.f3, Value.bool u.f4] 32)
        by_cases hj0 : j = 0
        · have h0a : decide ((0 : Int) < (j : Int)) = false := decide_eq_false (by omega)
          have h0b : decide (0 < j) = false := decide_eq_false (by omega)
          have HZ := Aside0.mk hj0
          clear hj0
          cases hN : nameOkB u.f0 with
          | false =>
            have N1 := specNameOk_c u.f0 false hN
            have HS := Aside0.mk (step_name HU.out hN)
            go_quiet ((first | (go_at_call 46; exact Calls.quiet_of (N1 _))))
            go_wp2_with fail
            go_ret
            exact ⟨by rw [ok_stop HJ.out hlt HS.out]; rfl, pw_below_drewN hBW _⟩
          | true =>
            have N1 := specNameOk_c u.f0 true hN
            cases hS1 : (ascB u.f1 && decide (u.f1.length ≤ 20)) with
            | false =>
              have HS := Aside0.mk (step_asc1 HU.out hS1)
              go_quiet ((first | (go_at_call 46; exact Calls.quiet_of (N1 _)) | (go_at_call_of 47 (Value.slice A1 u.f1.length c1); exact Calls.quiet_of (asc_c A1 c1 u.f1 _ hS1 _ (Kd.C_drewN (Kd.C_alloc G1.out _) _) L1.out))))
              go_wp2_with fail
              go_ret
              exact ⟨by rw [ok_stop HJ.out hlt HS.out]; rfl, pw_below_drewN hBW _⟩
            | true =>
              cases hS2 : (ascB u.f2 && decide (u.f2.length ≤ 20)) with
              | false =>
                have HS := Aside0.mk (step_asc2 HU.out hS2)
                go_quiet ((first | (go_at_call 46; exact Calls.quiet_of (N1 _)) | (go_at_call_of 47 (Value.slice A1 u.f1.length c1); exact Calls.quiet_of (asc_c A1 c1 u.f1 _ hS1 _ (Kd.C_drewN (Kd.C_alloc G1.out _) _) L1.out)) | (go_at_call_of 47 (Value.slice A2 u.f2.length c2); exact Calls.quiet_of (asc_c A2 c2 u.f2 _ hS2 _ (Kd.C_drewN (Kd.C_alloc G2.out _) _) L2.out))))
                go_wp2_with fail
                go_ret
                exact ⟨by rw [ok_stop HJ.out hlt HS.out]; rfl, pw_below_drewN hBW _⟩
              | true =>
                cases hU1 : (u.f1.all nameOkB && decide (u.f1.length ≤ 2000)) with
                | false =>
                  have HS := Aside0.mk (step_all1 HU.out hU1 hS1)
                  go_quiet ((first | (go_at_call 46; exact Calls.quiet_of (N1 _)) | (go_at_call_of 47 (Value.slice A1 u.f1.length c1); exact Calls.quiet_of (asc_c A1 c1 u.f1 _ hS1 _ (Kd.C_drewN (Kd.C_alloc G1.out _) _) L1.out)) | (go_at_call_of 47 (Value.slice A2 u.f2.length c2); exact Calls.quiet_of (asc_c A2 c2 u.f2 _ hS2 _ (Kd.C_drewN (Kd.C_alloc G2.out _) _) L2.out)) | (go_at_call_of 48 (Value.slice A1 u.f1.length c1); exact Calls.quiet_of (all_c A1 c1 u.f1 _ hU1 _ (Kd.C_drewN (Kd.C_alloc G1.out _) _) L1.out))))
                  go_wp2_with fail
                  go_ret
                  exact ⟨by rw [ok_stop HJ.out hlt HS.out]; rfl, pw_below_drewN hBW _⟩
                | true =>
                  cases hU2 : (u.f2.all nameOkB && decide (u.f2.length ≤ 2000)) with
                  | false =>
                    have HS := Aside0.mk (step_all2 HU.out hU2 hS2)
                    go_quiet ((first | (go_at_call 46; exact Calls.quiet_of (N1 _)) | (go_at_call_of 47 (Value.slice A1 u.f1.length c1); exact Calls.quiet_of (asc_c A1 c1 u.f1 _ hS1 _ (Kd.C_drewN (Kd.C_alloc G1.out _) _) L1.out)) | (go_at_call_of 47 (Value.slice A2 u.f2.length c2); exact Calls.quiet_of (asc_c A2 c2 u.f2 _ hS2 _ (Kd.C_drewN (Kd.C_alloc G2.out _) _) L2.out)) | (go_at_call_of 48 (Value.slice A1 u.f1.length c1); exact Calls.quiet_of (all_c A1 c1 u.f1 _ hU1 _ (Kd.C_drewN (Kd.C_alloc G1.out _) _) L1.out)) | (go_at_call_of 48 (Value.slice A2 u.f2.length c2); exact Calls.quiet_of (all_c A2 c2 u.f2 _ hU2 _ (Kd.C_drewN (Kd.C_alloc G2.out _) _) L2.out))))
                    go_wp2_with fail
                    go_ret
                    exact ⟨by rw [ok_stop HJ.out hlt HS.out]; rfl, pw_below_drewN hBW _⟩
                  | true =>
                    cases hE : decide (u.f3.size ≤ 4000) with
                    | false =>
                      have hze : decide ((4000 : Int) < (u.f3.size : Int)) = true := decide_eq_true (by first | (have := of_decide_eq_false hE; omega) | (have := of_decide_eq_true hE; omega))
                      have hzf : decide (4000 < u.f3.size) = true := decide_eq_true (by first | (have := of_decide_eq_false hE; omega) | (have := of_decide_eq_true hE; omega))
                      have HS := Aside0.mk (step_size HU.out hE)
                      go_quiet ((first | (go_at_call 46; exact Calls.quiet_of (N1 _)) | (go_at_call_of 47 (Value.slice A1 u.f1.length c1); exact Calls.quiet_of (asc_c A1 c1 u.f1 _ hS1 _ (Kd.C_drewN (Kd.C_alloc G1.out _) _) L1.out)) | (go_at_call_of 47 (Value.slice A2 u.f2.length c2); exact Calls.quiet_of (asc_c A2 c2 u.f2 _ hS2 _ (Kd.C_drewN (Kd.C_alloc G2.out _) _) L2.out)) | (go_at_call_of 48 (Value.slice A1 u.f1.length c1); exact Calls.quiet_of (all_c A1 c1 u.f1 _ hU1 _ (Kd.C_drewN (Kd.C_alloc G1.out _) _) L1.out)) | (go_at_call_of 48 (Value.slice A2 u.f2.length c2); exact Calls.quiet_of (all_c A2 c2 u.f2 _ hU2 _ (Kd.C_drewN (Kd.C_alloc G2.out _) _) L2.out))))
                      go_wp2_with fail
                      go_ret
                      exact ⟨by rw [ok_stop HJ.out hlt HS.out]; rfl, pw_below_drewN hBW _⟩
                    | true =>
                      have hze : decide ((4000 : Int) < (u.f3.size : Int)) = false := decide_eq_false (by first | (have := of_decide_eq_false hE; omega) | (have := of_decide_eq_true hE; omega))
                      have hzf : decide (4000 < u.f3.size) = false := decide_eq_false (by first | (have := of_decide_eq_false hE; omega) | (have := of_decide_eq_true hE; omega))
                      have HS := Aside0.mk (step_trueS0 HU.out hN hS1 hS2 hU1 hU2 hE HZ.out)
                      go_quiet ((first | (go_at_call 46; exact Calls.quiet_of (N1 _)) | (go_at_call_of 47 (Value.slice A1 u.f1.length c1); exact Calls.quiet_of (asc_c A1 c1 u.f1 _ hS1 _ (Kd.C_drewN (Kd.C_alloc G1.out _) _) L1.out)) | (go_at_call_of 47 (Value.slice A2 u.f2.length c2); exact Calls.quiet_of (asc_c A2 c2 u.f2 _ hS2 _ (Kd.C_drewN (Kd.C_alloc G2.out _) _) L2.out)) | (go_at_call_of 48 (Value.slice A1 u.f1.length c1); exact Calls.quiet_of (all_c A1 c1 u.f1 _ hU1 _ (Kd.C_drewN (Kd.C_alloc G1.out _) _) L1.out)) | (go_at_call_of 48 (Value.slice A2 u.f2.length c2); exact Calls.quiet_of (all_c A2 c2 u.f2 _ hU2 _ (Kd.C_drewN (Kd.C_alloc G2.out _) _) L2.out))))
                      go_wp2_with fail
                      go_roundw
                      case rel => exact ⟨j + 1, by omega, by go_num, ⟨ok_next HJ.out hlt HS.out⟩, pw_below_drewN hBW _⟩
                      case measure => simp [intOf]; omega
        · have h0a : decide ((0 : Int) < (j : Int)) = true := decide_eq_true (by omega)
          have h0b : decide (0 < j) = true := decide_eq_true (by omega)
          obtain ⟨q, hq⟩ : ∃ q : Nat, j = q + 1 := ⟨j - 1, by omega⟩
          have hq1 : q < l0.length := by omega
          have hw : IntKind.i64.wrap ((j : Int) - 1) = (q : Int) := by rw [IntWalk.i64_in _ (by omega)]; omega
          have HP := Aside0.mk hq
          clear hq hj0
          obtain ⟨ad2, B1, e1, B2, e2, hA2, y0, _, _, _, _, _, _, _, _⟩ := at_T32 HRr.out (q : Int) (by omega) (by omega)
          obtain rfl : ad = ad2 := by injection hA2
          simp only [Int.toNat_natCast] at y0
          obtain ⟨v, hv0⟩ : ∃ v, v = rd_T32 l0 (q : Int) := ⟨_, rfl⟩
          have HV := Aside0.mk hv0
          rw [← hv0] at y0
          clear hv0
          have y1 := pw_cell_below (below_alloc (Below.refl _ _) (.cells #[Value.string u.f0, Value.slice A1 u.f1.length c1, Value.slice A2 u.f2.length c2, Value.string u.f3, Value.bool u.f4] 32)) y0
          cases hN : nameOkB u.f0 with
          | false =>
            have N1 := specNameOk_c u.f0 false hN
            have HS := Aside0.mk (step_name HU.out hN)
            go_quiet ((first | (go_at_call 46; exact Calls.quiet_of (N1 _))))
            go_wp2_with fail
            go_ret
            exact ⟨by rw [ok_stop HJ.out hlt HS.out]; rfl, pw_below_drewN hBW _⟩
          | true =>
            have N1 := specNameOk_c u.f0 true hN
            cases hL : Op.bytesLess v.f0.toList u.f0.toList with
            | false =>
              have HS := Aside0.mk (step_less HU.out hL HP.out HV.out)
              go_quiet ((first | (go_at_call 46; exact Calls.quiet_of (N1 _))))
              go_wp2_with fail
              go_ret
              exact ⟨by rw [ok_stop HJ.out hlt HS.out]; rfl, pw_below_drewN hBW _⟩
            | true =>
              cases hS1 : (ascB u.f1 && decide (u.f1.length ≤ 20)) with
              | false =>
                have HS := Aside0.mk (step_asc1 HU.out hS1)
                go_quiet ((first | (go_at_call 46; exact Calls.quiet_of (N1 _)) | (go_at_call_of 47 (Value.slice A1 u.f1.length c1); exact Calls.quiet_of (asc_c A1 c1 u.f1 _ hS1 _ (Kd.C_drewN (Kd.C_alloc G1.out _) _) L1.out))))
                go_wp2_with fail
                go_ret
                exact ⟨by rw [ok_stop HJ.out hlt HS.out]; rfl, pw_below_drewN hBW _⟩
              | true =>
                cases hS2 : (ascB u.f2 && decide (u.f2.length ≤ 20)) with
                | false =>
                  have HS := Aside0.mk (step_asc2 HU.out hS2)
                  go_quiet ((first | (go_at_call 46; exact Calls.quiet_of (N1 _)) | (go_at_call_of 47 (Value.slice A1 u.f1.length c1); exact Calls.quiet_of (asc_c A1 c1 u.f1 _ hS1 _ (Kd.C_drewN (Kd.C_alloc G1.out _) _) L1.out)) | (go_at_call_of 47 (Value.slice A2 u.f2.length c2); exact Calls.quiet_of (asc_c A2 c2 u.f2 _ hS2 _ (Kd.C_drewN (Kd.C_alloc G2.out _) _) L2.out))))
                  go_wp2_with fail
                  go_ret
                  exact ⟨by rw [ok_stop HJ.out hlt HS.out]; rfl, pw_below_drewN hBW _⟩
                | true =>
                  cases hU1 : (u.f1.all nameOkB && decide (u.f1.length ≤ 2000)) with
                  | false =>
                    have HS := Aside0.mk (step_all1 HU.out hU1 hS1)
                    go_quiet ((first | (go_at_call 46; exact Calls.quiet_of (N1 _)) | (go_at_call_of 47 (Value.slice A1 u.f1.length c1); exact Calls.quiet_of (asc_c A1 c1 u.f1 _ hS1 _ (Kd.C_drewN (Kd.C_alloc G1.out _) _) L1.out)) | (go_at_call_of 47 (Value.slice A2 u.f2.length c2); exact Calls.quiet_of (asc_c A2 c2 u.f2 _ hS2 _ (Kd.C_drewN (Kd.C_alloc G2.out _) _) L2.out)) | (go_at_call_of 48 (Value.slice A1 u.f1.length c1); exact Calls.quiet_of (all_c A1 c1 u.f1 _ hU1 _ (Kd.C_drewN (Kd.C_alloc G1.out _) _) L1.out))))
                    go_wp2_with fail
                    go_ret
                    exact ⟨by rw [ok_stop HJ.out hlt HS.out]; rfl, pw_below_drewN hBW _⟩
                  | true =>
                    cases hU2 : (u.f2.all nameOkB && decide (u.f2.length ≤ 2000)) with
                    | false =>
                      have HS := Aside0.mk (step_all2 HU.out hU2 hS2)
                      go_quiet ((first | (go_at_call 46; exact Calls.quiet_of (N1 _)) | (go_at_call_of 47 (Value.slice A1 u.f1.length c1); exact Calls.quiet_of (asc_c A1 c1 u.f1 _ hS1 _ (Kd.C_drewN (Kd.C_alloc G1.out _) _) L1.out)) | (go_at_call_of 47 (Value.slice A2 u.f2.length c2); exact Calls.quiet_of (asc_c A2 c2 u.f2 _ hS2 _ (Kd.C_drewN (Kd.C_alloc G2.out _) _) L2.out)) | (go_at_call_of 48 (Value.slice A1 u.f1.length c1); exact Calls.quiet_of (all_c A1 c1 u.f1 _ hU1 _ (Kd.C_drewN (Kd.C_alloc G1.out _) _) L1.out)) | (go_at_call_of 48 (Value.slice A2 u.f2.length c2); exact Calls.quiet_of (all_c A2 c2 u.f2 _ hU2 _ (Kd.C_drewN (Kd.C_alloc G2.out _) _) L2.out))))
                      go_wp2_with fail
                      go_ret
                      exact ⟨by rw [ok_stop HJ.out hlt HS.out]; rfl, pw_below_drewN hBW _⟩
                    | true =>
                      cases hE : decide (u.f3.size ≤ 4000) with
                      | false =>
                        have hze : decide ((4000 : Int) < (u.f3.size : Int)) = true := decide_eq_true (by first | (have := of_decide_eq_false hE; omega) | (have := of_decide_eq_true hE; omega))
                        have hzf : decide (4000 < u.f3.size) = true := decide_eq_true (by first | (have := of_decide_eq_false hE; omega) | (have := of_decide_eq_true hE; omega))
                        have HS := Aside0.mk (step_size HU.out hE)
                        go_quiet ((first | (go_at_call 46; exact Calls.quiet_of (N1 _)) | (go_at_call_of 47 (Value.slice A1 u.f1.length c1); exact Calls.quiet_of (asc_c A1 c1 u.f1 _ hS1 _ (Kd.C_drewN (Kd.C_alloc G1.out _) _) L1.out)) | (go_at_call_of 47 (Value.slice A2 u.f2.length c2); exact Calls.quiet_of (asc_c A2 c2 u.f2 _ hS2 _ (Kd.C_drewN (Kd.C_alloc G2.out _) _) L2.out)) | (go_at_call_of 48 (Value.slice A1 u.f1.length c1); exact Calls.quiet_of (all_c A1 c1 u.f1 _ hU1 _ (Kd.C_drewN (Kd.C_alloc G1.out _) _) L1.out)) | (go_at_call_of 48 (Value.slice A2 u.f2.length c2); exact Calls.quiet_of (all_c A2 c2 u.f2 _ hU2 _ (Kd.C_drewN (Kd.C_alloc G2.out _) _) L2.out))))
                        go_wp2_with fail
                        go_ret
                        exact ⟨by rw [ok_stop HJ.out hlt HS.out]; rfl, pw_below_drewN hBW _⟩
                      | true =>
                        have hze : decide ((4000 : Int) < (u.f3.size : Int)) = false := decide_eq_false (by first | (have := of_decide_eq_false hE; omega) | (have := of_decide_eq_true hE; omega))
                        have hzf : decide (4000 < u.f3.size) = false := decide_eq_false (by first | (have := of_decide_eq_false hE; omega) | (have := of_decide_eq_true hE; omega))
                        have HS := Aside0.mk (step_trueS HU.out hN hL HP.out HV.out hS1 hS2 hU1 hU2 hE)
                        go_quiet ((first | (go_at_call 46; exact Calls.quiet_of (N1 _)) | (go_at_call_of 47 (Value.slice A1 u.f1.length c1); exact Calls.quiet_of (asc_c A1 c1 u.f1 _ hS1 _ (Kd.C_drewN (Kd.C_alloc G1.out _) _) L1.out)) | (go_at_call_of 47 (Value.slice A2 u.f2.length c2); exact Calls.quiet_of (asc_c A2 c2 u.f2 _ hS2 _ (Kd.C_drewN (Kd.C_alloc G2.out _) _) L2.out)) | (go_at_call_of 48 (Value.slice A1 u.f1.length c1); exact Calls.quiet_of (all_c A1 c1 u.f1 _ hU1 _ (Kd.C_drewN (Kd.C_alloc G1.out _) _) L1.out)) | (go_at_call_of 48 (Value.slice A2 u.f2.length c2); exact Calls.quiet_of (all_c A2 c2 u.f2 _ hU2 _ (Kd.C_drewN (Kd.C_alloc G2.out _) _) L2.out))))
                        go_wp2_with fail
                        go_roundw
                        case rel => exact ⟨j + 1, by omega, by go_num, ⟨ok_next HJ.out hlt HS.out⟩, pw_below_drewN hBW _⟩
                        case measure => simp [intOf]; omega
      · have hr : r = true := by
          have := HJ.out
          rw [show l0.length - j = 0 by omega] at this
          exact this.symm
        subst hr
        go_wp2
        go_ret
        exact ⟨rfl, hB⟩
end Go.Proofs.Ytnjmhlhlmokjnaa.G
namespace Go.Proofs.Ytnjmhlhlmokjnaa.G
open Go.RowKit Go.Maps Go.Proofs.YtnjmhlhlmokjnaaW.PrintWords Go.Proofs.YtnjmhlhlmokjnaaW.PrintLast
set_option linter.unusedVariables false
set_option linter.unusedSimpArgs false
theorem fine_name {s : ByteArray} (h : nameOkB s = true) : fine s := by
  unfold nameOkB at h
  simp only [Bool.and_eq_true, decide_eq_true_eq] at h
  unfold fine
  omega
structure UnitGood (u : S32) : Prop where
  name : fine u.f0
  after : u.f1.length ≤ 20
  needs : u.f2.length ≤ 20
  fafter : ∀ n ∈ u.f1, fine n
  fneeds : ∀ n ∈ u.f2, fine n
theorem unit_good {u : S32} (h : unitB u = true) : UnitGood u := by
  unfold unitB upB at h
  simp only [Bool.and_eq_true, decide_eq_true_eq, List.all_eq_true] at h
  obtain ⟨⟨⟨⟨⟨h1, h2⟩, h3⟩, h4⟩, h5⟩, h6⟩ := h
  exact ⟨fine_name h1, h2, h3, fun n hn => fine_name (h4.1 n hn), fun n hn => fine_name (h5.1 n hn)⟩
theorem rdT_mem {l : List S32} {i : Nat} (h : i < l.length) : rd_T32 l (i : Int) ∈ l := by
  rw [rd_T32_nat l i h]
  exact List.getElem_mem h
theorem cell_of_block {w w1 : World} {g o : Nat} (h : w1.heap[g]? = w.heap[g]?) : w1.cell? ⟨g, o, none⟩ = w.cell? ⟨g, o, none⟩ := by
  simp [World.cell?, h]
theorem cell_new_unit (w : World) {s : Value} {a b c d : Value} : ∀ (h : True), (w.alloc (.cells #[s, a, b, c, d] 32)).cell? ⟨w.heap.size, 0, none⟩ = some s := by
  intro _
  have := blk_new w (.cells #[s, a, b, c, d] 32)
  unfold World.cell?
  rw [this]
  rfl
def Alt (us : List S32) (br : List ByteArray) (u : S32) (S S4 : ByteArray → Bool) (n n4 q : Nat) (m m4 : Bool) : Prop :=
  (S4 = S ∧ n4 = n ∧ m4 = m ∧ ∀ x ∈ u.f2.take q, ¬ (hasU us x = false ∨ S x = true)) ∨ (S4 = (fun x => decide (x = u.f0) || S x) ∧ n4 ≤ n + q ∧ m4 = true ∧ FInv us br S4)
theorem Alt.hit {us : List S32} {br : List ByteArray} {u : S32} {S S4 : ByteArray → Bool} {n n4 q : Nat} {m m4 : Bool} (h : Alt us br u S S4 n n4 q m m4) (hI : FInv us br S) (hu : u ∈ us) {x : ByteArray} (hx : x ∈ u.f2) (hb : hasU us x = false ∨ S4 x = true) :
    Alt us br u S (fun x => decide (x = u.f0) || S4 x) n (n4 + 1) (q + 1) m true := by
  rcases h with ⟨rfl, rfl, rfl, _⟩ | ⟨rfl, h2, rfl, h4⟩
  · exact .inr ⟨rfl, by omega, rfl, hI.put hu hx hb⟩
  · have e : (fun x => decide (x = u.f0) || (decide (x = u.f0) || S x)) = fun x => decide (x = u.f0) || S x := by
      funext x; cases decide (x = u.f0) <;> rfl
    exact .inr ⟨e, by omega, rfl, by rw [e]; exact h4⟩
end Go.Proofs.Ytnjmhlhlmokjnaa.G
namespace Go.Proofs.Ytnjmhlhlmokjnaa.G
open Go.RowKit Go.Proofs.YtnjmhlhlmokjnaaW.PrintWords Go.Proofs.YtnjmhlhlmokjnaaW.PrintLast Go.Proofs.YtnjmhlhlmokjnaaW.PrintMore
attribute [local go_sem] max2_int min2_int max_two min_two max_three min_three max_four min_four
set_option linter.unusedVariables false
set_option linter.unusedSimpArgs false
def impl_waits.l0 : Nat → List (S32) → List ByteArray → List ByteArray → Int → Int → Option (List ByteArray)
  | 0, _, _, _, _, _ => none
  | k + 1, x0, x5, x13, x14, x15 => if x15 < x14 then (if 0 ≤ x15 then (if x15 < (x13.length : Int) then ((impl_unitOf.f k x0 (rdOf ByteArray.empty x13 x15)).bind fun t207 => (if t207 ≥ 0 then (if x5.length < 8796093022208 then (impl_waits.l0 k x0 (x5 ++ [rdOf ByteArray.empty x13 x15]) x13 x14 (wrap64 (x15 + 1))) else (none)) else (impl_waits.l0 k x0 x5 x13 x14 (wrap64 (x15 + 1))))) else (none)) else (none)) else ((impl_sortedSet.f x5).bind fun t211 => (some t211))
def impl_waits.f (k : Nat) (l0 : List (S32)) (a1_0 : ByteArray) (l1_1 : List ByteArray) (l1_2 : List ByteArray) (a1_3 : ByteArray) (a1_4 : Bool) : Option (List ByteArray) := (some (([] : List ByteArray) : List ByteArray)).bind fun y200 => (if y200.length + l1_2.length < 8796093022208 then (impl_waits.l0 k l0 (y200 ++ l1_2) l1_1 (l1_1.length : Int) 0) else (none))
set_option maxHeartbeats 8000000 in
set_option maxRecDepth 100000 in
theorem impl_waits.calls (k : Nat) (A0 : Option Addr) (c0 : Nat) (l0 : List (S32)) (a1_0 : ByteArray) (A1_1 : Option Addr) (c1_1 : Nat) (l1_1 : List ByteArray) (A1_2 : Option Addr) (c1_2 : Nat) (l1_2 : List ByteArray) (a1_3 : ByteArray) (a1_4 : Bool) (r : List ByteArray) (w : World) (hr0 : Kd.C k32 w A0 l0.length l0) (hc0 : l0.length ≤ c0) (hr1_1 : Kd.C Kd.string w A1_1 l1_1.length l1_1) (hc1_1 : l1_1.length ≤ c1_1) (hr1_2 : Kd.C Kd.string w A1_2 l1_2.length l1_2) (hc1_2 : l1_2.length ≤ c1_2) (h : impl_waits.f k l0 a1_0 l1_1 l1_2 a1_3 a1_4 = some r) :
    Calls Try.prog 62 #[.slice A0 l0.length c0, .agg #[.string a1_0, .slice A1_1 l1_1.length c1_1, .slice A1_2 l1_2.length c1_2, .string a1_3, .bool a1_4]] w fun e w' => ∃ v0_ : Value, e = .returned (v0_) ∧ Kd.R Kd.string 9 w' w.heap.size (fun _ => True) v0_ r ∧ Below w.heap.size w w' := by
  have hu32 := Try.underlying32
  have HR0 := Aside0.mk hr0
  have HC0 := Aside0.mk hc0
  clear hr0 hc0
  have HR1_1 := Aside0.mk hr1_1
  have HC1_1 := Aside0.mk hc1_1
  clear hr1_1 hc1_1
  have HR1_2 := Aside0.mk hr1_2
  have HC1_2 := Aside0.mk hc1_2
  clear hr1_2 hc1_2
  have HB := Aside0.mk (Below.refl w.heap.size w)
  have H : ((some (([] : List ByteArray) : List ByteArray)).bind fun y200 => (if y200.length + l1_2.length < 8796093022208 then (impl_waits.l0 k l0 (y200 ++ l1_2) l1_1 (l1_1.length : Int) 0) else (none))) = some r := h
  clear h
  obtain ⟨y200, hy200⟩ : ∃ y_ : List ByteArray, y_ = (([] : List ByteArray)) := ⟨_, rfl⟩
  replace H : (if y200.length + l1_2.length < 8796093022208 then (impl_waits.l0 k l0 (y200 ++ l1_2) l1_1 (l1_1.length : Int) 0) else (none)) = some r := by first | (rw [hy200]; with_reducible exact H) | (have H2_ := (Option.bind_some _ _).symm.trans H; rw [hy200]; with_reducible exact H2_) | (have H2_ := (Option.bind_some _ _).symm.trans H; with_reducible exact H2_) | with_reducible exact H | (rw [hy200]; exact H) | exact H
  have Ny200 := Aside0.mk hy200
  clear hy200
  by_cases c3 : y200.length + l1_2.length < 8796093022208
  · rw [if_pos c3] at H
    have LMc3 := Aside0.mk c3
    clear c3
    obtain ⟨y203, hy203⟩ : ∃ y_ : List ByteArray, y_ = (y200 ++ l1_2) := ⟨_, rfl⟩
    replace H : (impl_waits.l0 k l0 y203 l1_1 (l1_1.length : Int) 0) = some r := by first | (rw [hy203]; with_reducible exact H) | (have H2_ := (Option.bind_some _ _).symm.trans H; rw [hy203]; with_reducible exact H2_) | (have H2_ := (Option.bind_some _ _).symm.trans H; with_reducible exact H2_) | with_reducible exact H | (rw [hy203]; exact H) | exact H
    have Ny203 := Aside0.mk hy203
    clear hy203
    have H' := Aside0.mk H
    clear H
    go_enter Try.func62, Try.ntmps62
    go_wp2_with (first | ((with_reducible refine gate_dst (N := 3) rfl ?_); refine box_event ?hg (N := 3) ?hd (cs := #[.string a1_0, .slice A1_1 l1_1.length c1_1, .slice A1_2 l1_2.length c1_2, .string a1_3, .bool a1_4]) (t := 32) ?hr ?_; (case hd => rfl); (case hg => rfl); (case hr => first | (go_simp; done) | (go_simp; rfl)); intro gb199 hg w4 hbox hb; have n0_ := Aside0.mk (below_step (by repeat (first | (with_reducible first | exact HB.out | apply below_alloc | apply pw_below_drewN | apply below_drew1) | exact HB.out)) hb); have n1_ := Aside0.mk (hbox); have n2_ := Aside0.mk ((by rw [hg]; exact (below_size (by repeat (first | (with_reducible first | exact HB.out | apply below_alloc | apply pw_below_drewN | apply below_drew1) | exact HB.out))) : w.heap.size ≤ gb199)); have n3_ := Aside0.mk ((by rw [hg]; exact (below_size (by repeat (first | (with_reducible first | exact HB.out | apply below_alloc | apply pw_below_drewN | apply below_drew1) | exact HB.out))) : w.heap.size ≤ gb199)); clear HB; have HB := n0_; have BK199 := n1_; have GW199 := n2_; have GE199 := n3_; clear n0_ n1_ n2_ n3_; clear hb hbox hg) | ((with_reducible refine gate_dst (N := 8) rfl ?_); refine Kd.R_lit Kd.string _ 9 ?hg (N := 8) ?hd (xs := ([] : List ByteArray)) (inner := []) (ok := fun _ => True) (okp := fun _ => True) ?hr ?hp (fun _ hk => hk) trivial (Below.refl _ _) (Nat.le_refl _) (by simp) ?_; (case hd => rfl); (case hg => rfl); (case hr => first | (go_simp; done) | (go_simp; rfl)); (case hp => exact (Reps.none _ _)); intro v201 w5 ho6 hb hg_ hnew_; clear hg_ hnew_; (first | rw [← Ny200.out] at ho6 | (simp only [Int.reduceToNat] at ho6; rw [← Ny200.out] at ho6)); have n0_ := Aside0.mk (Kd.R_lower ho6 (below_size (by repeat (first | (with_reducible first | exact HB.out | apply below_alloc | apply pw_below_drewN | apply below_drew1 | refine below_set ?_ GE199.out) | exact HB.out)))); have n1_ := Aside0.mk (blk_below (g := gb199) (o := .cells #[.string a1_0, .slice A1_1 l1_1.length c1_1, .slice A1_2 l1_2.length c1_2, .string a1_3, .bool a1_4] 32 (0, 0)) (by (with_reducible repeat (first | refine blk_drewN ?_ _ | refine blk_drew ?_ | refine blk_alloc ?_ _)); exact BK199.out) hb); have n2_ := Aside0.mk (below_step (by repeat (first | (with_reducible first | exact HB.out | apply below_alloc | apply pw_below_drewN | apply below_drew1 | refine below_set ?_ GE199.out) | exact HB.out)) hb); clear BK199; clear HB; have HO202 := n0_; have BK199 := n1_; have HB := n2_; clear n0_ n1_ n2_; clear hb ho6; have hcz7_0 : w5.cell? ⟨gb199, 0, none⟩ = some (.string a1_0) := (blk_cell BK199.out 0).trans rfl; have hcz7_1 : w5.cell? ⟨gb199, 1, none⟩ = some (.slice A1_1 l1_1.length c1_1) := (blk_cell BK199.out 1).trans rfl; have hcz7_2 : w5.cell? ⟨gb199, 2, none⟩ = some (.slice A1_2 l1_2.length c1_2) := (blk_cell BK199.out 2).trans rfl; have hcz7_3 : w5.cell? ⟨gb199, 3, none⟩ = some (.string a1_3) := (blk_cell BK199.out 3).trans rfl; have hcz7_4 : w5.cell? ⟨gb199, 4, none⟩ = some (.bool a1_4) := (blk_cell BK199.out 4).trans rfl; have hfz7_0 := blk_frozen BK199.out 0; have hfz7_1 := blk_frozen BK199.out 1; have hfz7_2 := blk_frozen BK199.out 2; have hfz7_3 := blk_frozen BK199.out 3; have hfz7_4 := blk_frozen BK199.out 4) | ((with_reducible refine gate_builtin (b := .append) (xs := #[.tmp 8, .tmp 10]) rfl ?_); at_builtin; refine Kd.R_append_rows Kd.string (w0 := w) w.heap.size rfl (.tmp 8) (.tmp 10) 25 9 (.string ⟨#[]⟩) 16 rfl Try.underlying25 info9 rfl (by decide) (by omega) v201 y200 l1_2 _ _ _ (fun _ => True) (fun _ => False) rfl rfl ?aO ?aR (fun _ _ h => h) (fun _ h => h.elim) ?aF ?aB ?aS ?aL ?_; (case aR => repeat (first | exact (Kd.C_below HR1_2.out HB.out) | (with_reducible refine Kd.C_alloc ?_ _) | (with_reducible refine Kd.C_drewN ?_ _) | (with_reducible refine Kd.C_drew ?_))); (case aB => exact (by repeat (first | (with_reducible first | exact HB.out | apply below_alloc | apply pw_below_drewN | apply below_drew1 | refine below_set ?_ GE199.out) | exact HB.out))); (case aF => exact (fun _ _ => trivial)); (case aO => exact (by (with_reducible repeat (first | apply Kd.R_alloc | apply Kd.R_drewN | apply Kd.R_drew)); exact HO202.out)); (case aS => exact (below_size (by repeat (first | (with_reducible first | exact HB.out | apply below_alloc | apply pw_below_drewN | apply below_drew1 | refine below_set ?_ GE199.out) | exact HB.out)))); (case aL => have := LMc3.out; omega); intro v204 w8 ho hb hg hat; rw [← Ny203.out] at ho; have n0_ := Aside0.mk (blk_grown (g := gb199) (o := .cells #[.string a1_0, .slice A1_1 l1_1.length c1_1, .slice A1_2 l1_2.length c1_2, .string a1_3, .bool a1_4] 32 (0, 0)) (by (with_reducible repeat (first | refine blk_drewN ?_ _ | refine blk_drew ?_ | refine blk_alloc ?_ _)); exact BK199.out) hg (Kd.R_ne HO202.out BK199.out (by decide))); have n1_ := Aside0.mk (hb); have n2_ := Aside0.mk (ho); clear BK199; clear HB; clear HO202; have BK199 := n0_; have HB := n1_; have HO205 := n2_; clear n0_ n1_ n2_; clear ho hb hg hat; have hcz9_0 : w8.cell? ⟨gb199, 0, none⟩ = some (.string a1_0) := (blk_cell BK199.out 0).trans rfl; have hcz9_1 : w8.cell? ⟨gb199, 1, none⟩ = some (.slice A1_1 l1_1.length c1_1) := (blk_cell BK199.out 1).trans rfl; have hcz9_2 : w8.cell? ⟨gb199, 2, none⟩ = some (.slice A1_2 l1_2.length c1_2) := (blk_cell BK199.out 2).trans rfl; have hcz9_3 : w8.cell? ⟨gb199, 3, none⟩ = some (.string a1_3) := (blk_cell BK199.out 3).trans rfl; have hcz9_4 : w8.cell? ⟨gb199, 4, none⟩ = some (.bool a1_4) := (blk_cell BK199.out 4).trans rfl; have hfz9_0 := blk_frozen BK199.out 0; have hfz9_1 := blk_frozen BK199.out 1; have hfz9_2 := blk_frozen BK199.out 2; have hfz9_3 := blk_frozen BK199.out 3; have hfz9_4 := blk_frozen BK199.out 4))
    go_loopg [5, 15] k (fun kq v5 v15 w' => ∃ (x5_1 : List ByteArray) (x15_1 : Int), v15 = .int .i64 x15_1 ∧ Aside0 (impl_waits.l0 kq l0 x5_1 l1_1 (l1_1.length : Int) x15_1 = some r) ∧ Aside0 (kq ≤ k) ∧ Aside0 (Kd.R Kd.string 9 w' w.heap.size (fun _ => True) v5 x5_1) ∧ Aside0 (w'.heap[gb199]? = some (.cells #[.string a1_0, (.slice A1_1 l1_1.length c1_1), (.slice A1_2 l1_2.length c1_2), .string a1_3, .bool a1_4] 32 (0, 0))) ∧ Aside0 (Below w.heap.size w w'))
    case atStart => exact ⟨(y203), (0), (by first | rfl | (simp; done) | (simp [*]; done)), H', ⟨Nat.le_refl _⟩, ⟨by (with_reducible repeat (first | apply Kd.R_alloc | apply Kd.R_drewN | apply Kd.R_drew)); exact HO205.out⟩, ⟨by (with_reducible repeat (first | refine blk_drewN ?_ _ | refine blk_drew ?_ | refine blk_alloc ?_ _)); exact BK199.out⟩, ⟨by repeat (first | (with_reducible first | exact HB.out | apply below_alloc | apply pw_below_drewN | apply below_drew1 | refine below_set ?_ GE199.out) | exact HB.out)⟩⟩
    case round =>
      clear H'
      try clear c1
      try clear p2
      try clear c3
      try clear c6
      try clear hcz7_0
      try clear hcz7_1
      try clear hcz7_2
      try clear hcz7_3
      try clear hcz7_4
      try clear hcz9_0
      try clear hcz9_1
      try clear hcz9_2
      try clear hcz9_3
      try clear hcz9_4
      try clear hfz7_0
      try clear hfz7_1
      try clear hfz7_2
      try clear hfz7_3
      try clear hfz7_4
      try clear hfz9_0
      try clear hfz9_1
      try clear hfz9_2
      try clear hfz9_3
      try clear hfz9_4
      obtain ⟨x5_1, x15_1, rfl, HA, HK1, HO_5, BK199, HB⟩ := hrel
      cases gk with
      | zero => exact absurd HA.out (by simp [impl_waits.l0])
      | succ k1 =>
        have H := HA.out
        clear HA
        simp only [impl_waits.l0] at H
        by_cases c10 : x15_1 < (l1_1.length : Int)
        · rw [if_pos c10] at H
          have c10b0 : decide (x15_1 < (l1_1.length : Int)) = true := decide_eq_true c10
          clear c10
          by_cases c11 : 0 ≤ x15_1
          · rw [if_pos c11] at H
            have c11b0 : decide (0 ≤ x15_1) = true := decide_eq_true c11
            clear c11
            by_cases c12 : x15_1 < (l1_1.length : Int)
            · rw [if_pos c12] at H
              have c12b0 : decide (x15_1 < (l1_1.length : Int)) = true := decide_eq_true c12
              clear c12
              replace H := Option.bind_eq_some_iff.mp H
              obtain ⟨t207, A130, H⟩ := H
              replace H : (if t207 ≥ 0 then (if x5_1.length < 8796093022208 then (impl_waits.l0 k1 l0 (x5_1 ++ [rdOf ByteArray.empty l1_1 x15_1]) l1_1 (l1_1.length : Int) (wrap64 (x15_1 + 1))) else (none)) else (impl_waits.l0 k1 l0 x5_1 l1_1 (l1_1.length : Int) (wrap64 (x15_1 + 1)))) = some r := H
              have A13 := Aside0.mk A130
              clear A130
              by_cases c14 : t207 ≥ 0
              · rw [if_pos c14] at H
                have c14b0 : decide (0 ≤ t207) = true := decide_eq_true c14
                clear c14
                by_cases c15 : x5_1.length < 8796093022208
                · rw [if_pos c15] at H
                  have LMc15 := Aside0.mk c15
                  clear c15
                  obtain ⟨y208, hy208⟩ : ∃ y_ : List ByteArray, y_ = (x5_1 ++ [rdOf ByteArray.empty l1_1 x15_1]) := ⟨_, rfl⟩
                  replace H : (impl_waits.l0 k1 l0 y208 l1_1 (l1_1.length : Int) (wrap64 (x15_1 + 1))) = some r := by first | (rw [hy208]; with_reducible exact H) | (have H2_ := (Option.bind_some _ _).symm.trans H; rw [hy208]; with_reducible exact H2_) | (have H2_ := (Option.bind_some _ _).symm.trans H; with_reducible exact H2_) | with_reducible exact H | (rw [hy208]; exact H) | exact H
                  have Ny208 := Aside0.mk hy208
                  clear hy208
                  have H' := Aside0.mk H
                  clear H
                  have p206 : 0 ≤ (x15_1 : Int) := of_decide_eq_true (by first | (with_reducible assumption) | assumption)
                  have q206 : x15_1 < (l1_1.length : Int) := of_decide_eq_true (by first | (with_reducible assumption) | assumption)
                  obtain ⟨ad206, e206, hx206_0⟩ := Kd.at_string HR1_1.out x15_1 p206 q206
                  cases e206
                  replace hx206_0 := (HB.out.cell (World.block_lt_of_cell? w _ hx206_0)).trans hx206_0
                  replace p206 := eq_true p206
                  replace q206 := eq_true q206
                  go_wp2_with (first | ((with_reducible refine gate_callee (f := 44) rfl ?_); refine goesL_ (some 21) rfl rfl Try.func44 (by kernel_rfl) rfl #[.slice A0 l0.length c0, .string (rdOf ByteArray.empty l1_1 x15_1)] rfl (by (try simp only [List.map_toArray, List.map_cons, List.map_nil]); first | done | rfl | (simp only [List.length_drop, List.length_take]; rfl)) ?_; (with_reducible refine (impl_unitOf.calls k1 _ _ l0 (rdOf ByteArray.empty l1_1 x15_1) t207 _ ?side1 ?side2 A13.out).mono ?_); (case side1 => repeat (first | exact (Kd.C_below HR0.out HB.out) | (with_reducible refine Kd.C_alloc ?_ _) | (with_reducible refine Kd.C_drewN ?_ _) | (with_reducible refine Kd.C_drew ?_))); (case side2 => exact HC0.out); rintro e w16 ⟨rfl, hb⟩; refine ⟨_, rfl, ?_⟩; have n0_ := Aside0.mk (Kd.R_below (by (with_reducible repeat (first | apply Kd.R_alloc | apply Kd.R_drewN | apply Kd.R_drew)); exact HO_5.out) hb); have n1_ := Aside0.mk (blk_below (g := gb199) (o := .cells #[.string a1_0, .slice (some ad206) l1_1.length c1_1, .slice A1_2 l1_2.length c1_2, .string a1_3, .bool a1_4] 32 (0, 0)) (by (with_reducible repeat (first | refine blk_drewN ?_ _ | refine blk_drew ?_ | refine blk_alloc ?_ _)); exact BK199.out) hb); have n2_ := Aside0.mk (below_step (by repeat (first | (with_reducible first | exact HB.out | apply below_alloc | apply pw_below_drewN | apply below_drew1 | refine below_set ?_ GE199.out) | exact HB.out)) hb); clear HO_5; clear BK199; clear HB; have HO_5 := n0_; have BK199 := n1_; have HB := n2_; clear n0_ n1_ n2_; (try clear hb); (try clear hb2); (try clear hk); (try clear hi)) | ((with_reducible refine gate_builtin (b := .append) (xs := #[.tmp 23, .tmp 25]) rfl ?_); at_builtin; refine Kd.R_append Kd.string (w0 := w) w.heap.size rfl (.tmp 23) (.tmp 25) 25 9 (.string ⟨#[]⟩) 16 rfl Try.underlying25 info9 rfl (by decide) (by omega) u5 x5_1 (rdOf ByteArray.empty l1_1 x15_1) [.string (rdOf ByteArray.empty l1_1 x15_1)] (fun _ => True) (fun _ => False) rfl rfl ?aP (fun _ hk => hk.elim) ?aF ?aO ?aB ?aS ?aL ?_; (case aP => exact rfl); (case aB => exact (by repeat (first | (with_reducible first | exact HB.out | apply below_alloc | apply pw_below_drewN | apply below_drew1 | refine below_set ?_ GE199.out) | exact HB.out))); (case aF => exact (fun _ _ => trivial)); (case aO => exact (by (with_reducible repeat (first | apply Kd.R_alloc | apply Kd.R_drewN | apply Kd.R_drew)); exact HO_5.out)); (case aS => exact (below_size (by repeat (first | (with_reducible first | exact HB.out | apply below_alloc | apply pw_below_drewN | apply below_drew1 | refine below_set ?_ GE199.out) | exact HB.out)))); (case aL => have := LMc15.out; omega); intro v209 w17 ho hb hg hat; rw [← Ny208.out] at ho; have n0_ := Aside0.mk (blk_grown (g := gb199) (o := .cells #[.string a1_0, .slice (some ad206) l1_1.length c1_1, .slice A1_2 l1_2.length c1_2, .string a1_3, .bool a1_4] 32 (0, 0)) (by (with_reducible repeat (first | refine blk_drewN ?_ _ | refine blk_drew ?_ | refine blk_alloc ?_ _)); exact BK199.out) hg (Kd.R_ne HO_5.out BK199.out (by decide))); have n1_ := Aside0.mk (hb); have n2_ := Aside0.mk (ho); clear BK199; clear HB; clear HO_5; have BK199 := n0_; have HB := n1_; have HO210 := n2_; clear n0_ n1_ n2_; clear ho hb hg hat))
                  go_roundg k1
                  case measure => have := HK1.out; omega
                  case rel => exact ⟨(y208), (wrap64 (x15_1 + 1)), (by first | rfl | (simp; done) | (simp [*]; done)), H', ⟨by have := HK1.out; omega⟩, ⟨by (with_reducible repeat (first | apply Kd.R_alloc | apply Kd.R_drewN | apply Kd.R_drew)); exact HO210.out⟩, ⟨by (with_reducible repeat (first | refine blk_drewN ?_ _ | refine blk_drew ?_ | refine blk_alloc ?_ _)); exact BK199.out⟩, ⟨by repeat (first | (with_reducible first | exact HB.out | apply below_alloc | apply pw_below_drewN | apply below_drew1 | refine below_set ?_ GE199.out) | exact HB.out)⟩⟩
                · rw [if_neg c15] at H
                  exact absurd H (by simp)
              · rw [if_neg c14] at H
                have c14b0 : decide (0 ≤ t207) = false := decide_eq_false c14
                clear c14
                have H' := Aside0.mk H
                clear H
                have p206 : 0 ≤ (x15_1 : Int) := of_decide_eq_true (by first | (with_reducible assumption) | assumption)
                have q206 : x15_1 < (l1_1.length : Int) := of_decide_eq_true (by first | (with_reducible assumption) | assumption)
                obtain ⟨ad206, e206, hx206_0⟩ := Kd.at_string HR1_1.out x15_1 p206 q206
                cases e206
                replace hx206_0 := (HB.out.cell (World.block_lt_of_cell? w _ hx206_0)).trans hx206_0
                replace p206 := eq_true p206
                replace q206 := eq_true q206
                go_wp2_with (first | ((with_reducible refine gate_callee (f := 44) rfl ?_); refine goesL_ (some 21) rfl rfl Try.func44 (by kernel_rfl) rfl #[.slice A0 l0.length c0, .string (rdOf ByteArray.empty l1_1 x15_1)] rfl (by (try simp only [List.map_toArray, List.map_cons, List.map_nil]); first | done | rfl | (simp only [List.length_drop, List.length_take]; rfl)) ?_; (with_reducible refine (impl_unitOf.calls k1 _ _ l0 (rdOf ByteArray.empty l1_1 x15_1) t207 _ ?side1 ?side2 A13.out).mono ?_); (case side1 => repeat (first | exact (Kd.C_below HR0.out HB.out) | (with_reducible refine Kd.C_alloc ?_ _) | (with_reducible refine Kd.C_drewN ?_ _) | (with_reducible refine Kd.C_drew ?_))); (case side2 => exact HC0.out); rintro e w18 ⟨rfl, hb⟩; refine ⟨_, rfl, ?_⟩; have n0_ := Aside0.mk (Kd.R_below (by (with_reducible repeat (first | apply Kd.R_alloc | apply Kd.R_drewN | apply Kd.R_drew)); exact HO_5.out) hb); have n1_ := Aside0.mk (blk_below (g := gb199) (o := .cells #[.string a1_0, .slice (some ad206) l1_1.length c1_1, .slice A1_2 l1_2.length c1_2, .string a1_3, .bool a1_4] 32 (0, 0)) (by (with_reducible repeat (first | refine blk_drewN ?_ _ | refine blk_drew ?_ | refine blk_alloc ?_ _)); exact BK199.out) hb); have n2_ := Aside0.mk (below_step (by repeat (first | (with_reducible first | exact HB.out | apply below_alloc | apply pw_below_drewN | apply below_drew1 | refine below_set ?_ GE199.out) | exact HB.out)) hb); clear HO_5; clear BK199; clear HB; have HO_5 := n0_; have BK199 := n1_; have HB := n2_; clear n0_ n1_ n2_; (try clear hb); (try clear hb2); (try clear hk); (try clear hi)))
                go_roundg k1
                case measure => have := HK1.out; omega
                case rel => exact ⟨(x5_1), (wrap64 (x15_1 + 1)), (by first | rfl | (simp; done) | (simp [*]; done)), H', ⟨by have := HK1.out; omega⟩, ⟨by (with_reducible repeat (first | apply Kd.R_alloc | apply Kd.R_drewN | apply Kd.R_drew)); exact HO_5.out⟩, ⟨by (with_reducible repeat (first | refine blk_drewN ?_ _ | refine blk_drew ?_ | refine blk_alloc ?_ _)); exact BK199.out⟩, ⟨by repeat (first | (with_reducible first | exact HB.out | apply below_alloc | apply pw_below_drewN | apply below_drew1 | refine below_set ?_ GE199.out) | exact HB.out)⟩⟩
            · rw [if_neg c12] at H
              exact absurd H (by simp)
          · rw [if_neg c11] at H
            exact absurd H (by simp)
        · rw [if_neg c10] at H
          have c10b0 : decide (x15_1 < (l1_1.length : Int)) = false := decide_eq_false c10
          clear c10
          replace H := Option.bind_eq_some_iff.mp H
          obtain ⟨t211, A190, H⟩ := H
          replace H : (some t211) = some r := H
          have A19 := Aside0.mk A190
          clear A190
          obtain rfl := Option.some.inj H
          obtain ⟨Ao20, co20, eo20⟩ := Kd.R_slice HO_5.out
          subst eo20
          go_wp2_with (first | ((with_reducible refine gate_callee (f := 69) rfl ?_); refine goesL_ (some 29) rfl rfl Try.func69 (by kernel_rfl) rfl #[.slice Ao20 x5_1.length co20] rfl (by (try simp only [List.map_toArray, List.map_cons, List.map_nil]); first | done | rfl | (simp only [List.length_drop, List.length_take]; rfl)) ?_; (with_reducible refine (impl_sortedSet.calls _ _ x5_1 t211 _ ?side1 ?side2 A19.out).mono ?_); (case side1 => repeat (first | exact (Kd.R_reads' HO_5.out).2.2 | (with_reducible refine Kd.C_alloc ?_ _) | (with_reducible refine Kd.C_drewN ?_ _) | (with_reducible refine Kd.C_drew ?_))); (case side2 => exact (Kd.R_reads' HO_5.out).2.1); rintro e w21 ⟨v212, rfl, ho0, hb⟩; refine ⟨_, rfl, ?_⟩; have n0_ := Aside0.mk (Kd.R_elder' (by (with_reducible repeat (first | apply Kd.R_alloc | apply Kd.R_drewN | apply Kd.R_drew)); exact HO_5.out) (Kd.R_base ho0) hb); have n1_ := Aside0.mk (Kd.R_lower (Kd.R_new' ho0 (Kd.R_lt (by (with_reducible repeat (first | apply Kd.R_alloc | apply Kd.R_drewN | apply Kd.R_drew)); exact HO_5.out))) (below_size (by repeat (first | (with_reducible first | exact HB.out | apply below_alloc | apply pw_below_drewN | apply below_drew1 | refine below_set ?_ GE199.out) | exact HB.out)))); have n2_ := Aside0.mk (blk_below (g := gb199) (o := .cells #[.string a1_0, .slice A1_1 l1_1.length c1_1, .slice A1_2 l1_2.length c1_2, .string a1_3, .bool a1_4] 32 (0, 0)) (by (with_reducible repeat (first | refine blk_drewN ?_ _ | refine blk_drew ?_ | refine blk_alloc ?_ _)); exact BK199.out) hb); have n3_ := Aside0.mk (below_step (by repeat (first | (with_reducible first | exact HB.out | apply below_alloc | apply pw_below_drewN | apply below_drew1 | refine below_set ?_ GE199.out) | exact HB.out)) hb); clear HO_5; clear BK199; clear HB; have HO_5 := n0_; have HO213 := n1_; have BK199 := n2_; have HB := n3_; clear n0_ n1_ n2_ n3_; (try clear hb); (try clear hb2); (try clear hk); (try clear hi); (try clear ho0)))
          go_ret
          exact ⟨_, by first | rfl | (simp [errW_none, errW_some] <;> rfl) | (simp [*, errW_none, errW_some] <;> rfl), by (with_reducible repeat (first | apply Kd.R_alloc | apply Kd.R_drewN | apply Kd.R_drew)); exact Kd.R_mono HO213.out (fun _ hk => trivial), by repeat (first | (with_reducible first | exact HB.out | apply below_alloc | apply pw_below_drewN | apply below_drew1 | refine below_set ?_ GE199.out) | exact HB.out)⟩
  · rw [if_neg c3] at H
    exact absurd H (by simp)
end Go.Proofs.Ytnjmhlhlmokjnaa.G
namespace Go.Proofs.Ytnjmhlhlmokjnaa.G
open Go.RowKit Go.Proofs.YtnjmhlhlmokjnaaW.PrintWords Go.Proofs.YtnjmhlhlmokjnaaW.PrintLast Go.Proofs.YtnjmhlhlmokjnaaW.PrintMore
attribute [local go_sem] max2_int min2_int max_two min_two max_three min_three max_four min_four
set_option linter.unusedVariables false
set_option linter.unusedSimpArgs false
end Go.Proofs.Ytnjmhlhlmokjnaa.G
namespace Go.Proofs.Ytnjmhlhlmokjnaa.G
open Go.RowKit Go.Proofs.YtnjmhlhlmokjnaaW.PrintWords Go.Proofs.YtnjmhlhlmokjnaaW.PrintLast Go.Proofs.YtnjmhlhlmokjnaaW.PrintMore
attribute [local go_sem] max2_int min2_int max_two min_two max_three min_three max_four min_four
set_option linter.unusedVariables false
set_option linter.unusedSimpArgs false
end Go.Proofs.Ytnjmhlhlmokjnaa.G
namespace Go.Proofs.Ytnjmhlhlmokjnaa.G
open Go.RowKit Go.Proofs.YtnjmhlhlmokjnaaW.PrintWords Go.Proofs.YtnjmhlhlmokjnaaW.PrintLast
set_option linter.unusedVariables false
set_option linter.unusedSimpArgs false
theorem nodup_sub_len : ∀ {xs l : List ByteArray}, xs.Nodup → (∀ x ∈ xs, x ∈ l) → xs.length ≤ l.length
  | [], _, _, _ => Nat.zero_le _
  | x :: xs, l, h, hs => by
    have h' := List.nodup_cons.1 h
    letI : BEq ByteArray := instBEqOfDecidableEq
    have := nodup_sub_len (xs := xs) (l := l.erase x) h'.2 (fun y hy => (List.mem_erase_of_ne (fun e => h'.1 (by rw [← e]; exact hy))).2 (hs y (by simp [hy])))
    have h2 := List.length_erase_of_mem (hs x (by simp))
    have h3 := List.length_pos_of_mem (hs x (by simp))
    simp only [List.length_cons]
    omega
def condB (us : List S32) (br o : List ByteArray) (u : S32) : Bool := decide (u.f0 ∈ br) || badB us o u
def stepO (us : List S32) (br o : List ByteArray) (u : S32) : List ByteArray := if condB us br o u = true then insB u.f0 o else o
structure OkO (us : List S32) (br o : List ByteArray) : Prop where
  asc : Asc o
  sound : ∀ x ∈ o, x ∈ failL us br
theorem OkO.len {us : List S32} {br o : List ByteArray} (h : OkO us br o) : o.length ≤ us.length := by
  have h1 := nodup_sub_len (asc_nodup h.asc) (fun x hx => of_decide_eq_true (failL_has x (h.sound x hx)))
  simpa [namesU] using h1
theorem badB_mono {us : List S32} {o o' : List ByteArray} (h : ∀ x ∈ o, x ∈ o') {u : S32} (hb : badB us o u = true) : badB us o' u = true := by
  obtain ⟨n, h1, h2⟩ := badB_iff.1 hb
  exact badB_iff.2 ⟨n, h1, h2.imp id (h n)⟩
theorem condB_mono {us : List S32} {br o o' : List ByteArray} (h : ∀ x ∈ o, x ∈ o') {u : S32} (hb : condB us br o u = true) : condB us br o' u = true := by
  unfold condB at hb ⊢
  rw [Bool.or_eq_true] at hb ⊢
  exact hb.imp id (badB_mono h)
theorem OkO.step {us : List S32} {br o : List ByteArray} (h : OkO us br o) {u : S32} (hu : u ∈ us) : OkO us br (stepO us br o u) := by
  unfold stepO
  split
  · rename_i hc
    refine ⟨asc_insB _ _ h.asc, fun x hx => ?_⟩
    rcases (mem_insB _ _ _).1 hx with rfl | hx
    · unfold condB at hc
      rw [Bool.or_eq_true] at hc
      rcases hc with hc | hc
      · exact failL_base (of_decide_eq_true hc) (decide_eq_true (List.mem_map.2 ⟨u, hu, rfl⟩))
      · obtain ⟨n, h1, h2⟩ := badB_iff.1 hc
        exact failL_closed us br u hu ⟨n, h1, h2.imp id (h.sound n)⟩
    · exact h.sound x hx
  · exact h
def Stable (us : List S32) (br o : List ByteArray) : Prop := ∀ u ∈ us, condB us br o u = true → u.f0 ∈ o
theorem Stable.congr {us : List S32} {br o o' : List ByteArray} (h : Stable us br o) (e : ∀ x, x ∈ o' ↔ x ∈ o) : Stable us br o' := fun u hu hc => (e _).2 (h u hu (condB_mono (fun x hx => (e x).1 hx) hc))
end Go.Proofs.Ytnjmhlhlmokjnaa.G
namespace Go.Proofs.Ytnjmhlhlmokjnaa.G
open Go.RowKit Go.Proofs.YtnjmhlhlmokjnaaW.PrintWords Go.Proofs.YtnjmhlhlmokjnaaW.PrintLast
set_option linter.unusedVariables false
set_option linter.unusedSimpArgs false
def waitsL (us : List S32) (u : S32) : List ByteArray := u.f2 ++ u.f1.filter (hasU us)
def readyB (us : List S32) (o : List ByteArray) (u : S32) : Bool := !decide (u.f0 ∈ o) && (waitsL us u).all (fun x => decide (x ∈ o))
def orderL (us : List S32) : Nat → List ByteArray → List ByteArray
  | 0, o => o
  | n + 1, o => match us.find? (readyB us o) with
    | none => o
    | some u => orderL us n (o ++ [u.f0])
def startL (us : List S32) : List ByteArray := orderL us us.length []
def impl_startOrder.f (us : List S32) : Option (List ByteArray) := if unitsOkB us = true then some (startL us) else none
structure OrdInv (us : List S32) (o : List ByteArray) : Prop where
  nodup : o.Nodup
  sub : ∀ x ∈ o, x ∈ namesU us
  now : orderL us (us.length - o.length) o = startL us
theorem OrdInv.len {us : List S32} {o : List ByteArray} (h : OrdInv us o) : o.length ≤ us.length := by
  have := nodup_sub_len h.nodup h.sub
  simpa [namesU] using this
theorem OrdInv.start (us : List S32) : OrdInv us [] := ⟨List.nodup_nil, fun x hx => (by cases hx), rfl⟩
theorem ready_not {us : List S32} {o : List ByteArray} {u : S32} (h : readyB us o u = true) : u.f0 ∉ o := by
  unfold readyB at h
  simp only [Bool.and_eq_true, Bool.not_eq_true', decide_eq_false_iff_not] at h
  exact h.1
theorem OrdInv.room {us : List S32} {o : List ByteArray} (h : OrdInv us o) {u : S32} (hu : u ∈ us) (hn : u.f0 ∉ o) : o.length < us.length := by
  have := nodup_sub_len (xs := u.f0 :: o) (l := namesU us) (List.nodup_cons.2 ⟨hn, h.nodup⟩) (fun x hx => by
    rcases List.mem_cons.1 hx with rfl | hx
    · exact List.mem_map.2 ⟨u, hu, rfl⟩
    · exact h.sub x hx)
  have h2 : o.length + 1 ≤ us.length := by simpa [namesU] using this
  omega
theorem OrdInv.next {us : List S32} {o : List ByteArray} (h : OrdInv us o) {u : S32} (hf : us.find? (readyB us o) = some u) : OrdInv us (o ++ [u.f0]) := by
  have hr := List.find?_some hf
  have hu := List.mem_of_find?_eq_some hf
  have hn := ready_not hr
  have hroom := h.room hu hn
  refine ⟨?_, ?_, ?_⟩
  · rw [List.nodup_append]
    refine ⟨h.nodup, by simp, ?_⟩
    intro a ha b hb
    rw [List.mem_singleton.1 hb]
    rintro rfl
    exact hn ha
  · intro x hx
    rcases List.mem_append.1 hx with hx | hx
    · exact h.sub x hx
    · rw [List.mem_singleton.1 hx]
      exact List.mem_map.2 ⟨u, hu, rfl⟩
  · have := h.now
    rw [show us.length - o.length = (us.length - (o.length + 1)) + 1 by omega] at this
    unfold orderL at this
    rw [hf] at this
    rw [← this]
    simp
theorem OrdInv.done {us : List S32} {o : List ByteArray} (h : OrdInv us o) (hf : us.find? (readyB us o) = none) : o = startL us := by
  rw [← h.now]
  cases us.length - o.length with
  | zero => rfl
  | succ n => unfold orderL; rw [hf]
theorem find_at {us : List S32} {p : S32 → Bool} {i : Nat} (hi : i < us.length) (hno : ∀ j : Nat, j < i → p (rd_T32 us (j : Int)) = false) (hp : p us[i] = true) : us.find? p = some us[i] := by
  rw [List.find?_eq_some_iff_getElem]
  refine ⟨hp, i, hi, rfl, fun j hj => ?_⟩
  have := hno j hj
  rw [rd_T32_nat us j (by omega)] at this
  simp [this]
theorem find_none {us : List S32} {p : S32 → Bool} (hno : ∀ j : Nat, j < us.length → p (rd_T32 us (j : Int)) = false) : us.find? p = none := by
  rw [List.find?_eq_none]
  intro x hx
  obtain ⟨j, hj, rfl⟩ := List.getElem_of_mem hx
  have := hno j hj
  rw [rd_T32_nat us j hj] at this
  simp [this]
theorem waits_loop (us : List S32) (hu : us.length ≤ 100) (f1 : List ByteArray) (h1 : f1.length ≤ 20) (hf : ∀ x ∈ f1, fine x) (d : Nat) : ∀ (i : Nat) (o : List ByteArray), i + d = f1.length → o.length ≤ 20 + i → (∀ x ∈ o, fine x) →
    Ev (fun k => impl_waits.l0 k us o f1 (f1.length : Int) (i : Int)) (canonL (o ++ (f1.drop i).filter (hasU us))) := by
  induction d with
  | zero =>
    intro i o hi ho hfo
    rw [List.drop_eq_nil_of_le (by omega), List.filter_nil, List.append_nil]
    refine Ev.step (f := fun _ => some (canonL o)) (fun k => ?_) (Ev.now _)
    rw [impl_waits.l0, if_neg (by omega)]
    unfold impl_sortedSet.f
    rw [if_pos ⟨by omega, hfo⟩]
    rfl
  | succ d ih =>
    intro i o hi ho hfo
    have hil : i < f1.length := by omega
    have hw : wrap64 ((i : Int) + 1) = ((i + 1 : Nat) : Int) := by rw [wrap_id (by omega) (by omega)]; omega
    rw [List.drop_eq_getElem_cons hil, List.filter_cons]
    refine Ev.step (fun k => by rw [impl_waits.l0, if_pos (by omega), if_pos (by omega), if_pos (by omega), rdOf_nat _ f1 i hil, hw]) (Ev.bind (unitOf_ev us f1[i] (by omega)) ?_)
    cases hh : hasU us f1[i] with
    | true =>
      have hge : findU us f1[i] ≥ 0 := by rw [findU_ge]; exact hh
      have hnew := ih (i + 1) (o ++ [f1[i]]) (by omega) (by simp; omega) (fun x hx => by
        rcases List.mem_append.1 hx with hx | hx
        · exact hfo x hx
        · rw [List.mem_singleton.1 hx]; exact hf _ (List.getElem_mem hil))
      rw [if_pos rfl]
      refine Ev.congr (fun k => by rw [if_pos hge, if_pos (by omega)]) ?_
      rw [List.append_assoc, List.singleton_append] at hnew
      exact hnew
    | false =>
      have hge : ¬ findU us f1[i] ≥ 0 := by rw [findU_ge, hh]; decide
      rw [if_neg (by decide)]
      exact Ev.congr (fun k => if_neg hge) (ih (i + 1) o (by omega) (by omega) hfo)
theorem waits_ev (us : List S32) (hu : us.length ≤ 100) (u : S32) (hg : UnitGood u) : Ev (fun k => impl_waits.f k us u.f0 u.f1 u.f2 u.f3 u.f4) (canonL (waitsL us u)) := by
  have h2 := hg.needs
  refine Ev.congr (f := fun k => impl_waits.l0 k us u.f2 u.f1 (u.f1.length : Int) 0) (fun k => ?_) ?_
  · unfold impl_waits.f
    simp only [Option.bind_some, List.length_nil, List.nil_append, Nat.zero_add]
    rw [if_pos (by omega)]
  · have := waits_loop us hu u.f1 hg.after hg.fafter u.f1.length 0 u.f2 (by omega) (by omega) hg.fneeds
    rw [List.drop_zero] at this
    exact this
theorem waits_c (A0 : Option Addr) (c0 : Nat) (l0 : List S32) (hu : l0.length ≤ 100) (u : S32) (hg : UnitGood u) (A1 : Option Addr) (c1 : Nat) (A2 : Option Addr) (c2 : Nat) (w : World) (hr0 : Kd.C k32 w A0 l0.length l0) (hc0 : l0.length ≤ c0)
    (hr1 : Kd.C Kd.string w A1 u.f1.length u.f1) (hc1 : u.f1.length ≤ c1) (hr2 : Kd.C Kd.string w A2 u.f2.length u.f2) (hc2 : u.f2.length ≤ c2) :
    Calls Try.prog 62 #[.slice A0 l0.length c0, .agg #[.string u.f0, .slice A1 u.f1.length c1, .slice A2 u.f2.length c2, .string u.f3, .bool u.f4]] w fun e w' => ∃ v0_ : Value, e = .returned (v0_) ∧ Kd.R Kd.string 9 w' w.heap.size (fun _ => True) v0_ (canonL (waitsL l0 u)) ∧ Below w.heap.size w w' := by
  obtain ⟨k, hk⟩ := (waits_ev l0 hu u hg).rounds
  exact impl_waits.calls k A0 c0 l0 u.f0 A1 c1 u.f1 A2 c2 u.f2 u.f3 u.f4 _ w hr0 hc0 hr1 hc1 hr2 hc2 hk
end Go.Proofs.Ytnjmhlhlmokjnaa.G
namespace Go.Proofs.Ytnjmhlhlmokjnaa.G
open Go.RowKit Go.Maps Go.Proofs.YtnjmhlhlmokjnaaW.PrintWords Go.Proofs.YtnjmhlhlmokjnaaW.PrintLast
set_option linter.unusedVariables false
set_option linter.unusedSimpArgs false
theorem waits_len {us : List S32} {u : S32} (hg : UnitGood u) : (canonL (waitsL us u)).length ≤ 40 := by
  have h1 := nodup_sub_len (asc_nodup (asc_canonL (waitsL us u))) (l := u.f2 ++ u.f1) (fun x hx => by
    rw [mem_canonL] at hx
    unfold waitsL at hx
    rcases List.mem_append.1 hx with hx | hx
    · exact List.mem_append_left _ hx
    · exact List.mem_append_right _ (List.mem_filter.1 hx).1)
  have h2 := hg.after
  have h3 := hg.needs
  rw [List.length_append] at h1
  omega
theorem waits_fine {us : List S32} {u : S32} (hg : UnitGood u) : ∀ x ∈ canonL (waitsL us u), fine x := by
  intro x hx
  rw [mem_canonL] at hx
  unfold waitsL at hx
  rcases List.mem_append.1 hx with hx | hx
  · exact hg.fneeds x hx
  · exact hg.fafter x (List.mem_filter.1 hx).1
def allIn (o ws : List ByteArray) (q : Nat) : Bool := (ws.take q).all (fun x => decide (x ∈ o))
theorem allIn_step {o ws : List ByteArray} {q : Nat} (h : q < ws.length) : allIn o ws (q + 1) = (allIn o ws q && decide (rdOf ByteArray.empty ws (q : Int) ∈ o)) := by
  unfold allIn
  rw [rdOf_nat _ _ _ h, List.take_succ_eq_append_getElem h, List.all_append]
  simp
theorem allIn_ready {us : List S32} {o : List ByteArray} {u : S32} (hn : u.f0 ∉ o) : readyB us o u = allIn o (canonL (waitsL us u)) (canonL (waitsL us u)).length := by
  unfold readyB allIn
  rw [decide_eq_false hn, List.take_length]
  rw [Bool.eq_iff_iff]
  simp only [Bool.not_false, Bool.true_and, List.all_eq_true, mem_canonL]
set_option maxHeartbeats 8000000 in
set_option maxRecDepth 100000 in
theorem impl_startOrder.calls (A0 : Option Addr) (c0 : Nat) (l0 : List S32) (r : List ByteArray) (w : World) (hr0 : Kd.C k32 w A0 l0.length l0) (hc0 : l0.length ≤ c0) (h : impl_startOrder.f l0 = some r) :
    Calls Try.prog 59 #[.slice A0 l0.length c0] w fun e w' => ∃ v0_, e = .returned (v0_) ∧ Kd.R Kd.string 9 w' w.heap.size (fun _ => True) v0_ r ∧ Below w.heap.size w w' := by
  have hu32 := Try.underlying32
  have HR0 := Aside0.mk hr0
  have HC0 := Aside0.mk hc0
  clear hr0 hc0
  have hok : unitsOkB l0 = true := by
    cases c : unitsOkB l0 with
    | true => rfl
    | false => unfold impl_startOrder.f at h; rw [c] at h; cases h
  have hr : r = startL l0 := by
    unfold impl_startOrder.f at h
    rw [if_pos hok] at h
    exact (Option.some.inj h).symm
  clear h
  subst hr
  have HG := Aside0.mk (good_of_ok hok)
  have hl100 : l0.length ≤ 100 := HG.out.len
  have hmm := @run_makeMap Try.prog
  go_enter Try.func59, Try.ntmps59
  go_wp2_with (first | ((with_reducible refine gate_dst (N := 11) rfl ?_); refine Kd.R_lit Kd.string (w0 := w) w.heap.size 9 ?hg (N := 11) ?hd (xs := ([] : List ByteArray)) (inner := []) (ok := fun _ => True) (okp := fun _ => False) ?hr ?hp (fun _ hk => hk.elim) trivial (Below.refl _ _) (Nat.le_refl _) (by simp) ?_; (case hd => rfl); (case hg => rfl); (case hr => first | (go_simp; done) | (go_simp; rfl)); (case hp => exact (Reps.none _ _)); intro v w3 ho hb hg_ hnew_) | fail)
  have HO3 := Aside0.mk (Kd.R_alloc (Kd.R_mono (ok' := fun k => k ≠ w3.heap.size) (Kd.R_bound ho) (fun k hk => Nat.ne_of_lt hk.2.2.1)) (.map #[] 0))
  have HB3 := Aside0.mk (below_alloc hb (.map #[] 0))
  have HS3 := Aside0.mk (SetM.made w3)
  have hbm : w.heap.size ≤ w3.heap.size := hb.size
  obtain ⟨bm, hbme⟩ : ∃ b, b = w3.heap.size := ⟨_, rfl⟩
  rw [← hbme] at HO3 HS3 hbm ⊢
  clear hbme ho hb hg_ hnew_
  obtain ⟨K, hK⟩ : ∃ K, K = l0.length + 2 := ⟨_, rfl⟩
  go_loopg [3, 5] K (fun kq v3 v5 wr => ∃ (m : Bool) (n : Nat) (S : ByteArray → Bool) (o : List ByteArray), v5 = .bool m ∧ n ≤ o.length ∧ Aside0 (SetM wr bm n S) ∧ Aside0 (Kd.R Kd.string 9 wr w.heap.size (fun k => k ≠ bm) v3 o) ∧ Aside0 (OrdInv l0 o) ∧ Aside0 (∀ x, S x = decide (x ∈ o)) ∧ Aside0 (m = false → l0.find? (readyB l0 o) = none) ∧ Aside0 (Below w.heap.size w wr) ∧ Aside0 (kq ≤ K) ∧ Aside0 (1 ≤ kq ∧ (m = true → l0.length + 2 ≤ o.length + kq)))
  case atStart => exact ⟨true, 0, _, [], rfl, Nat.le_refl _, HS3, HO3, ⟨OrdInv.start _⟩, ⟨by simp⟩, ⟨by simp⟩, HB3, ⟨Nat.le_refl _⟩, ⟨by omega, by simp; omega⟩⟩
  case round =>
    clear HO3 HB3 HS3
    obtain ⟨m, n, S, o, rfl, hn, HS, HO, HI, HM, HF, HB, HK1, HK2⟩ := hrel
    cases gk with
    | zero => exact absurd HK2.out.1 (by omega)
    | succ k1 =>
      cases m with
      | false =>
        obtain ⟨A6, c6, hv⟩ := Kd.R_slice HO.out
        subst hv
        have hres := HI.out.done (HF.out rfl)
        go_wp2_with fail
        go_ret
        exact ⟨_, rfl, by rw [← hres]; exact Kd.R_mono HO.out (fun _ _ => trivial), HB.out⟩
      | true =>
        have HK := Aside0.mk (HK2.out.2 rfl)
        have hol := HI.out.len
        go_wp2_with fail
        go_loopw [16, 3, 5] (fun v16 v3 v5 wr => ∃ (i : Nat), v16 = .int .i64 i ∧ v5 = .bool false ∧ i ≤ l0.length ∧ Aside0 (SetM wr bm n S) ∧ Aside0 (Kd.R Kd.string 9 wr w.heap.size (fun k => k ≠ bm) v3 o) ∧ Aside0 (Below w.heap.size w wr) ∧ Aside0 (∀ j : Nat, j < i → readyB l0 o (rd_T32 l0 (j : Int)) = false)) (fun v16 _ _ _ => l0.length - (intOf v16).toNat)
        case atStart => exact ⟨0, rfl, rfl, Nat.zero_le _, HS, HO, HB, ⟨fun j hj => absurd hj (Nat.not_lt_zero _)⟩⟩
        case round =>
          clear HS HO HB HF
          obtain ⟨i, rfl, rfl, hi, HS, HO, HB, HN⟩ := hrel
          by_cases hlt : i < l0.length
          · obtain ⟨ad, A1, c1, A2, c2, hA, x0, x1, x2, x3, x4, l1, g1, l2, g2⟩ := at_T32 HR0.out (i : Int) (by omega) (by omega)
            cases hA
            simp only [Int.toNat_natCast] at x0 x1 x2 x3 x4
            obtain ⟨u, hu0⟩ : ∃ u, u = rd_T32 l0 (i : Int) := ⟨_, rfl⟩
            have HU := Aside0.mk hu0
            rw [← hu0] at x0 x1 x2 x3 x4 g1 g2 l1 l2
            have hum : u ∈ l0 := by rw [hu0]; exact rdT_mem hlt
            clear hu0
            have G1 := Aside0.mk (Kd.C_alloc (Kd.C_below g1 HB.out) (.cells #[Value.string u.f0, Value.slice A1 u.f1.length c1, Value.slice A2 u.f2.length c2, Value.string u.f3, Value.bool u.f4] 32))
            have G2 := Aside0.mk (Kd.C_alloc (Kd.C_below g2 HB.out) (.cells #[Value.string u.f0, Value.slice A1 u.f1.length c1, Value.slice A2 u.f2.length c2, Value.string u.f3, Value.bool u.f4] 32))
            have L1 := Aside0.mk l1
            have L2 := Aside0.mk l2
            clear g1 g2 l1 l2
            have hug := unit_good (HG.out.unit u hum)
            replace x0 := (HB.out.cell (World.block_lt_of_cell? w _ x0)).trans x0
            replace x1 := (HB.out.cell (World.block_lt_of_cell? w _ x1)).trans x1
            replace x2 := (HB.out.cell (World.block_lt_of_cell? w _ x2)).trans x2
            replace x3 := (HB.out.cell (World.block_lt_of_cell? w _ x3)).trans x3
            replace x4 := (HB.out.cell (World.block_lt_of_cell? w _ x4)).trans x4
            have HSa := Aside0.mk (HS.out.alloc (.cells #[Value.string u.f0, Value.slice A1 u.f1.length c1, Value.slice A2 u.f2.length c2, Value.string u.f3, Value.bool u.f4] 32))
            have HBa := Aside0.mk (below_alloc HB.out (.cells #[Value.string u.f0, Value.slice A1 u.f1.length c1, Value.slice A2 u.f2.length c2, Value.string u.f3, Value.bool u.f4] 32))
            have HOa := Aside0.mk (Kd.R_alloc HO.out (.cells #[Value.string u.f0, Value.slice A1 u.f1.length c1, Value.slice A2 u.f2.length c2, Value.string u.f3, Value.bool u.f4] 32))
            have hcell := cell_new_unit wr (s := Value.string u.f0) (a := Value.slice A1 u.f1.length c1) (b := Value.slice A2 u.f2.length c2) (c := Value.string u.f3) (d := Value.bool u.f4) trivial
            have hszn : wr.heap.size < (wr.alloc (.cells #[Value.string u.f0, Value.slice A1 u.f1.length c1, Value.slice A2 u.f2.length c2, Value.string u.f3, Value.bool u.f4] 32)).heap.size := blk_lt (blk_new _ _)
            have hwb : bm < wr.heap.size := HS.out.lt
            cases hS : S u.f0 with
            | true =>
              go_wp2_with (first | (at_lookup; refine wpList_set_look _ rfl _ _ rfl bm n S u.f0 rfl rfl HSa.out hug.name ?_; rw [hS]) | fail)
              go_roundw
              case rel =>
                exact ⟨i + 1, by simp, rfl, hlt, HSa, HOa, HBa, ⟨fun j hj => by
                  rcases Nat.lt_or_ge j i with h | h
                  · exact HN.out j h
                  · obtain rfl : j = i := by omega
                    rw [← HU.out]
                    have hx : u.f0 ∈ o := of_decide_eq_true ((HM.out _).symm.trans hS)
                    unfold readyB
                    rw [decide_eq_true hx]
                    rfl⟩⟩
              case measure => simp [intOf]; omega
            | false =>
              have hno : u.f0 ∉ o := of_decide_eq_false ((HM.out _).symm.trans hS)
              go_wp2_with (first | (at_lookup; refine wpList_set_look _ rfl _ _ rfl bm n S u.f0 rfl rfl HSa.out hug.name ?_; rw [hS]) | (go_at_call 62; refine (waits_c (some ad) c0 l0 hl100 u hug A1 c1 A2 c2 _ (Kd.C_alloc (Kd.C_below HR0.out HB.out) _) HC0.out G1.out L1.out G2.out L2.out).mono ?_; rintro e w5 ⟨vw, rfl, hw5, hb5⟩; obtain ⟨A5, c5, hv5⟩ := Kd.R_slice hw5; subst hv5) | fail)
              have hwl := waits_len (us := l0) hug
              have hwf := waits_fine (us := l0) hug
              have hrdy := allIn_ready (us := l0) hno
              obtain ⟨ws, hws⟩ : ∃ ws, ws = canonL (waitsL l0 u) := ⟨_, rfl⟩
              rw [← hws] at hw5 hwl hwf hrdy ⊢
              clear hws
              have HW5 := Aside0.mk (Kd.R_reads' hw5).2.2
              have HS5 := Aside0.mk (HSa.out.below hb5)
              have HO5 := Aside0.mk (Kd.R_below HOa.out hb5)
              have HB5 := Aside0.mk (below_weaken HBa.out HBa.out.size hb5)
              have hcell5 := (hb5.cell (p := ⟨wr.heap.size, 0, none⟩) hszn).trans hcell
              have hsz5 : wr.heap.size < w5.heap.size := Nat.lt_of_lt_of_le hszn hb5.size
              obtain ⟨pb, hpb⟩ : ∃ p, p = wr.heap.size := ⟨_, rfl⟩
              rw [← hpb] at hcell5 hwb hsz5 ⊢
              have HRD := Aside0.mk hrdy
              have HWF := Aside0.mk hwf
              clear hrdy hwf hcell hszn hw5 HSa HOa HBa hpb hb5
              go_loopw [28, 8] (fun v28 v8 w6 => ∃ (q : Nat), v28 = .int .i64 q ∧ v8 = .bool (allIn o ws q) ∧ q ≤ ws.length ∧ w6 = w5) (fun v28 _ _ => ws.length - (intOf v28).toNat)
              case atStart => exact ⟨0, rfl, rfl, Nat.zero_le _, rfl⟩
              case round =>
                obtain ⟨q, rfl, rfl, hq, rfl⟩ := hrel
                by_cases hlq : q < ws.length
                · obtain ⟨ad2, hA2, y0⟩ := Kd.at_string HW5.out (q : Int) (by omega) (by omega)
                  cases hA2
                  have hst := allIn_step (o := o) hlq
                  have hfx := HWF.out _ (rd_mem hlq)
                  obtain ⟨x, hx0⟩ : ∃ x, x = rdOf ByteArray.empty ws (q : Int) := ⟨_, rfl⟩
                  rw [← hx0] at y0 hst hfx
                  simp only [Int.toNat_natCast] at y0
                  clear hx0
                  have hlook := HS5.out.look hfx
                  rw [HM.out x] at hlook
                  cases hall : allIn o ws q with
                  | false =>
                    rw [hall, Bool.false_and] at hst
                    go_wp2_with fail
                    go_roundw
                    case rel => exact ⟨q + 1, by simp, by rw [hst], hlq, (by first | rfl | trivial)⟩
                    case measure => simp [intOf]; omega
                  | true =>
                    rw [hall, Bool.true_and] at hst
                    cases hin : decide (x ∈ o) with
                    | false =>
                      rw [hin] at hlook hst
                      go_wp2_with fail
                      go_roundw
                      case rel => exact ⟨q + 1, by simp, by rw [hst], hlq, (by first | rfl | trivial)⟩
                      case measure => simp [intOf]; omega
                    | true =>
                      rw [hin] at hlook hst
                      go_wp2_with fail
                      go_roundw
                      case rel => exact ⟨q + 1, by simp, by rw [hst], hlq, (by first | rfl | trivial)⟩
                      case measure => simp [intOf]; omega
                · have hqe : q = ws.length := by omega
                  subst hqe
                  cases hrd : readyB l0 o u with
                  | false =>
                    have hall : allIn o ws ws.length = false := HRD.out.symm.trans hrd
                    rw [hall]
                    go_wp2_with fail
                    go_roundw
                    case rel =>
                      exact ⟨i + 1, by simp, rfl, hlt, HS5, HO5, HB5, ⟨fun j hj => by
                        rcases Nat.lt_or_ge j i with h | h
                        · exact HN.out j h
                        · obtain rfl : j = i := by omega
                          rw [← HU.out]
                          exact hrd⟩⟩
                    case measure => simp [intOf]; omega
                  | true =>
                    have hall : allIn o ws ws.length = true := HRD.out.symm.trans hrd
                    rw [hall]
                    go_wp2_with (first | (at_mapUpdate; refine wpList_set_put _ rfl _ _ _ rfl bm n S u.f0 rfl rfl rfl HS5.out (by omega) hug.name ?_; intro w6 hs6 hg6; have hcell6 := (cell_of_block (o := 0) (hg6.block pb hsz5 (by simp; omega))).trans hcell5; have hO6 := Kd.R_grown HO5.out hg6 (fun k hk => by simpa using hk); have hB6 := HB5.out.grown hg6 HB5.out.size (fun k hk => by cases hk; exact hbm)) | ((with_reducible refine gate_builtin (b := .append) (xs := #[.tmp 43, .tmp 46]) rfl ?_); at_builtin; refine Kd.R_append Kd.string (w0 := w) w.heap.size rfl (.tmp 43) (.tmp 46) 25 9 (.string ⟨#[]⟩) 16 rfl Try.underlying25 info9 rfl (by decide) (by omega) u3 o u.f0 [.string u.f0] (fun k => k ≠ bm) (fun _ => False) rfl rfl ?aP (fun _ hk => hk.elim) ?aF hO6 hB6 ?aS ?aL ?_; (case aP => exact rfl); (case aF => exact (fun k hk => by have := hg6.size; omega)); (case aS => exact hB6.size); (case aL => omega); intro v1 w7 ho7 hb7 hg7 hat7) | fail)
                    have hf := find_at hlt HN.out (by rw [← rd_T32_nat l0 i hlt, ← HU.out]; exact hrd)
                    have hf2 : l0.find? (readyB l0 o) = some u := by rw [hf, HU.out, rd_T32_nat l0 i hlt]
                    have hroom := HI.out.room hum hno
                    go_roundg k1
                    case measure => have := HK1.out; omega
                    case rel =>
                      refine ⟨true, n + 1, _, o ++ [u.f0], by simp, by simp; omega, ⟨hs6.grown hg7 (fun e => (HO5.out.1 _ e.symm) rfl)⟩, ⟨ho7⟩, ⟨HI.out.next hf2⟩, ⟨fun x => ?_⟩, ⟨by simp⟩, ⟨hb7⟩, ⟨by have := HK1.out; omega⟩, ⟨by have := HK.out; omega, fun _ => by have := HK.out; simp; omega⟩⟩
                      rw [HM.out x]
                      simp only [List.mem_append, List.mem_singleton, Bool.decide_or]
                      rw [Bool.or_comm]
          · have hie : i = l0.length := by omega
            subst hie
            go_wp2_with fail
            go_roundg k1
            case measure => have := HK1.out; omega
            case rel => exact ⟨false, n, S, o, rfl, hn, HS, HO, HI, HM, ⟨fun _ => find_none HN.out⟩, HB, ⟨by have := HK1.out; omega⟩, ⟨by have := HK.out; omega, by simp⟩⟩
end Go.Proofs.Ytnjmhlhlmokjnaa.G
namespace Go.Proofs.Ytnjmhlhlmokjnaa.G
open Go.RowKit Go.Proofs.YtnjmhlhlmokjnaaW.PrintWords Go.Proofs.YtnjmhlhlmokjnaaW.PrintLast Go.Proofs.YtnjmhlhlmokjnaaW.PrintMore
attribute [local go_sem] max2_int min2_int max_two min_two max_three min_three max_four min_four
set_option linter.unusedVariables false
set_option linter.unusedSimpArgs false
mutual
def spec_l18Ready.l0 : Nat → List (S32) → List ByteArray → Int → ByteArray → List ByteArray → List ByteArray → ByteArray → Bool → Option (Bool)
  | 0, _, _, _, _, _, _, _, _ => none
  | k + 1, x0, x2, x7, x120000, x120001, x120002, x120003, x120004 => if x7 < (x120002.length : Int) then (if 0 ≤ x7 then ((spec_l3Has.f k x2 (rdOf ByteArray.empty x120002 x7)).bind fun t121 => (if t121 = true then (spec_l18Ready.l0 k x0 x2 (wrap64 (x7 + 1)) x120000 x120001 x120002 x120003 x120004) else (some false))) else (none)) else (spec_l18Ready.l1 k x0 x2 0 x120000 x120001 x120002 x120003 x120004)
def spec_l18Ready.l1 : Nat → List (S32) → List ByteArray → Int → ByteArray → List ByteArray → List ByteArray → ByteArray → Bool → Option (Bool)
  | 0, _, _, _, _, _, _, _, _ => none
  | k + 1, x0, x2, x8, x120000, x120001, x120002, x120003, x120004 => if x8 < (x120001.length : Int) then (if 0 ≤ x8 then ((spec_l18Find.f k x0 (rdOf ByteArray.empty x120001 x8)).bind fun t123 => (if t123 ≥ 0 then ((spec_l3Has.f k x2 (rdOf ByteArray.empty x120001 x8)).bind fun t125 => (if t125 = true then (spec_l18Ready.l1 k x0 x2 (wrap64 (x8 + 1)) x120000 x120001 x120002 x120003 x120004) else (some false))) else (spec_l18Ready.l1 k x0 x2 (wrap64 (x8 + 1)) x120000 x120001 x120002 x120003 x120004))) else (none)) else (some true)
end
def spec_l18Ready.f (k : Nat) (l0 : List (S32)) (a1_0 : ByteArray) (l1_1 : List ByteArray) (l1_2 : List ByteArray) (a1_3 : ByteArray) (a1_4 : Bool) (l2 : List ByteArray) : Option (Bool) := spec_l18Ready.l0 k l0 l2 0 a1_0 l1_1 l1_2 a1_3 a1_4
set_option maxHeartbeats 8000000 in
set_option maxRecDepth 100000 in
theorem spec_l18Ready.calls (k : Nat) (A0 : Option Addr) (c0 : Nat) (l0 : List (S32)) (a1_0 : ByteArray) (A1_1 : Option Addr) (c1_1 : Nat) (l1_1 : List ByteArray) (A1_2 : Option Addr) (c1_2 : Nat) (l1_2 : List ByteArray) (a1_3 : ByteArray) (a1_4 : Bool) (A2 : Option Addr) (c2 : Nat) (l2 : List ByteArray) (r : Bool) (w : World) (hr0 : Kd.C k32 w A0 l0.length l0) (hc0 : l0.length ≤ c0) (hr1_1 : Kd.C Kd.string w A1_1 l1_1.length l1_1) (hc1_1 : l1_1.length ≤ c1_1) (hr1_2 : Kd.C Kd.string w A1_2 l1_2.length l1_2) (hc1_2 : l1_2.length ≤ c1_2) (hr2 : Kd.C Kd.string w A2 l2.length l2) (hc2 : l2.length ≤ c2) (h : spec_l18Ready.f k l0 a1_0 l1_1 l1_2 a1_3 a1_4 l2 = some r) :
    Calls Try.prog 58 #[.slice A0 l0.length c0, .agg #[.string a1_0, .slice A1_1 l1_1.length c1_1, .slice A1_2 l1_2.length c1_2, .string a1_3, .bool a1_4], .slice A2 l2.length c2] w fun e w' => e = .returned (.bool r) ∧ Below w.heap.size w w' := by
  have hu32 := Try.underlying32
  have HR0 := Aside0.mk hr0
  have HC0 := Aside0.mk hc0
  clear hr0 hc0
  have HR1_1 := Aside0.mk hr1_1
  have HC1_1 := Aside0.mk hc1_1
  clear hr1_1 hc1_1
  have HR1_2 := Aside0.mk hr1_2
  have HC1_2 := Aside0.mk hc1_2
  clear hr1_2 hc1_2
  have HR2 := Aside0.mk hr2
  have HC2 := Aside0.mk hc2
  clear hr2 hc2
  have HB := Aside0.mk (Below.refl w.heap.size w)
  have H : (spec_l18Ready.l0 k l0 l2 0 a1_0 l1_1 l1_2 a1_3 a1_4) = some r := h
  clear h
  have H' := Aside0.mk H
  clear H
  go_enter Try.func58, Try.ntmps58
  go_wp2_with (first | ((with_reducible refine gate_dst (N := 4) rfl ?_); refine box_event ?hg (N := 4) ?hd (cs := #[.string a1_0, .slice A1_1 l1_1.length c1_1, .slice A1_2 l1_2.length c1_2, .string a1_3, .bool a1_4]) (t := 32) ?hr ?_; (case hd => rfl); (case hg => rfl); (case hr => first | (go_simp; done) | (go_simp; rfl)); intro gb119 hg w4 hbox hb; have n0_ := Aside0.mk (below_step (by repeat (first | (with_reducible first | exact HB.out | apply below_alloc | apply pw_below_drewN | apply below_drew1) | exact HB.out)) hb); have n1_ := Aside0.mk (hbox); have n2_ := Aside0.mk ((by rw [hg]; exact (below_size (by repeat (first | (with_reducible first | exact HB.out | apply below_alloc | apply pw_below_drewN | apply below_drew1) | exact HB.out))) : w.heap.size ≤ gb119)); have n3_ := Aside0.mk ((by rw [hg]; exact (below_size (by repeat (first | (with_reducible first | exact HB.out | apply below_alloc | apply pw_below_drewN | apply below_drew1) | exact HB.out))) : w.heap.size ≤ gb119)); clear HB; have HB := n0_; have BK119 := n1_; have GW119 := n2_; have GE119 := n3_; clear n0_ n1_ n2_ n3_; clear hb hbox hg))
  go_loopg [7] k (fun kq v7 w' => ∃ (x7_1 : Int), v7 = .int .i64 x7_1 ∧ Aside0 (spec_l18Ready.l0 kq l0 l2 x7_1 a1_0 l1_1 l1_2 a1_3 a1_4 = some r) ∧ Aside0 (kq ≤ k) ∧ Aside0 (w'.heap[gb119]? = some (.cells #[.string a1_0, (.slice A1_1 l1_1.length c1_1), (.slice A1_2 l1_2.length c1_2), .string a1_3, .bool a1_4] 32 (0, 0))) ∧ Aside0 (Below w.heap.size w w'))
  case atStart => exact ⟨(0), (by first | rfl | (simp; done) | (simp [*]; done)), H', ⟨Nat.le_refl _⟩, ⟨by (with_reducible repeat (first | refine blk_drewN ?_ _ | refine blk_drew ?_ | refine blk_alloc ?_ _)); exact BK119.out⟩, ⟨by repeat (first | (with_reducible first | exact HB.out | apply below_alloc | apply pw_below_drewN | apply below_drew1 | refine below_set ?_ GE119.out) | exact HB.out)⟩⟩
  case round =>
    clear H'
    try clear c1
    try clear c2
    try clear p2
    obtain ⟨x7_1, rfl, HA, HK1, BK119, HB⟩ := hrel
    cases gk with
    | zero => exact absurd HA.out (by simp [spec_l18Ready.l0])
    | succ k1 =>
      have H := HA.out
      clear HA
      simp only [spec_l18Ready.l0] at H
      by_cases c5 : x7_1 < (l1_2.length : Int)
      · rw [if_pos c5] at H
        have c5b0 : decide (x7_1 < (l1_2.length : Int)) = true := decide_eq_true c5
        clear c5
        by_cases c6 : 0 ≤ x7_1
        · rw [if_pos c6] at H
          have c6b0 : decide (0 ≤ x7_1) = true := decide_eq_true c6
          clear c6
          replace H := Option.bind_eq_some_iff.mp H
          obtain ⟨t121, A70, H⟩ := H
          replace H : (if t121 = true then (spec_l18Ready.l0 k1 l0 l2 (wrap64 (x7_1 + 1)) a1_0 l1_1 l1_2 a1_3 a1_4) else (some false)) = some r := H
          have A7 := Aside0.mk A70
          clear A70
          by_cases c8 : t121 = true
          · subst c8
            have H1 : (spec_l18Ready.l0 k1 l0 l2 (wrap64 (x7_1 + 1)) a1_0 l1_1 l1_2 a1_3 a1_4) = some r := by rw [if_pos rfl] at H; exact H
            clear H
            have H := H1
            clear H1
            have H' := Aside0.mk H
            clear H
            have hcz9_0 : wr.cell? ⟨gb119, 0, none⟩ = some (.string a1_0) := (blk_cell BK119.out 0).trans rfl
            have hcz9_1 : wr.cell? ⟨gb119, 1, none⟩ = some (.slice A1_1 l1_1.length c1_1) := (blk_cell BK119.out 1).trans rfl
            have hcz9_2 : wr.cell? ⟨gb119, 2, none⟩ = some (.slice A1_2 l1_2.length c1_2) := (blk_cell BK119.out 2).trans rfl
            have hcz9_3 : wr.cell? ⟨gb119, 3, none⟩ = some (.string a1_3) := (blk_cell BK119.out 3).trans rfl
            have hcz9_4 : wr.cell? ⟨gb119, 4, none⟩ = some (.bool a1_4) := (blk_cell BK119.out 4).trans rfl
            have hfz9_0 := blk_frozen BK119.out 0
            have hfz9_1 := blk_frozen BK119.out 1
            have hfz9_2 := blk_frozen BK119.out 2
            have hfz9_3 := blk_frozen BK119.out 3
            have hfz9_4 := blk_frozen BK119.out 4
            have p120 : 0 ≤ (x7_1 : Int) := of_decide_eq_true (by first | (with_reducible assumption) | assumption)
            have q120 : x7_1 < (l1_2.length : Int) := of_decide_eq_true (by first | (with_reducible assumption) | assumption)
            obtain ⟨ad120, e120, hx120_0⟩ := Kd.at_string HR1_2.out x7_1 p120 q120
            cases e120
            replace hx120_0 := (HB.out.cell (World.block_lt_of_cell? w _ hx120_0)).trans hx120_0
            replace p120 := eq_true p120
            replace q120 := eq_true q120
            go_wp2_with (first | ((with_reducible refine gate_callee (f := 51) rfl ?_); refine goesL_ (some 22) rfl rfl Try.func51 (by kernel_rfl) rfl #[.slice A2 l2.length c2, .string (rdOf ByteArray.empty l1_2 x7_1)] rfl (by (try simp only [List.map_toArray, List.map_cons, List.map_nil]); first | done | rfl | (simp only [List.length_drop, List.length_take]; rfl)) ?_; (with_reducible refine (spec_l3Has.calls k1 _ _ l2 (rdOf ByteArray.empty l1_2 x7_1) true _ ?side1 ?side2 A7.out).mono ?_); (case side1 => repeat (first | exact (Kd.C_below HR2.out HB.out) | (with_reducible refine Kd.C_alloc ?_ _) | (with_reducible refine Kd.C_drewN ?_ _) | (with_reducible refine Kd.C_drew ?_))); (case side2 => exact HC2.out); rintro e w' ⟨rfl, ⟨nd, rfl⟩⟩; refine ⟨_, rfl, ?_⟩))
            go_roundg k1
            case measure => have := HK1.out; omega
            case rel => exact ⟨(wrap64 (x7_1 + 1)), (by first | rfl | (simp; done) | (simp [*]; done)), H', ⟨by have := HK1.out; omega⟩, ⟨by (with_reducible repeat (first | refine blk_drewN ?_ _ | refine blk_drew ?_ | refine blk_alloc ?_ _)); exact BK119.out⟩, ⟨by repeat (first | (with_reducible first | exact HB.out | apply below_alloc | apply pw_below_drewN | apply below_drew1 | refine below_set ?_ GE119.out) | exact HB.out)⟩⟩
          · replace c8 := Bool.eq_false_iff.mpr c8
            subst c8
            have H1 : (some false) = some r := by rw [if_neg (show ¬ (false = true) by decide)] at H; exact H
            clear H
            have H := H1
            clear H1
            obtain rfl := Option.some.inj H
            have hcz10_0 : wr.cell? ⟨gb119, 0, none⟩ = some (.string a1_0) := (blk_cell BK119.out 0).trans rfl
            have hcz10_1 : wr.cell? ⟨gb119, 1, none⟩ = some (.slice A1_1 l1_1.length c1_1) := (blk_cell BK119.out 1).trans rfl
            have hcz10_2 : wr.cell? ⟨gb119, 2, none⟩ = some (.slice A1_2 l1_2.length c1_2) := (blk_cell BK119.out 2).trans rfl
            have hcz10_3 : wr.cell? ⟨gb119, 3, none⟩ = some (.string a1_3) := (blk_cell BK119.out 3).trans rfl
            have hcz10_4 : wr.cell? ⟨gb119, 4, none⟩ = some (.bool a1_4) := (blk_cell BK119.out 4).trans rfl
            have hfz10_0 := blk_frozen BK119.out 0
            have hfz10_1 := blk_frozen BK119.out 1
            have hfz10_2 := blk_frozen BK119.out 2
            have hfz10_3 := blk_frozen BK119.out 3
            have hfz10_4 := blk_frozen BK119.out 4
            have p120 : 0 ≤ (x7_1 : Int) := of_decide_eq_true (by first | (with_reducible assumption) | assumption)
            have q120 : x7_1 < (l1_2.length : Int) := of_decide_eq_true (by first | (with_reducible assumption) | assumption)
            obtain ⟨ad120, e120, hx120_0⟩ := Kd.at_string HR1_2.out x7_1 p120 q120
            cases e120
            replace hx120_0 := (HB.out.cell (World.block_lt_of_cell? w _ hx120_0)).trans hx120_0
            replace p120 := eq_true p120
            replace q120 := eq_true q120
            go_wp2_with (first | ((with_reducible refine gate_callee (f := 51) rfl ?_); refine goesL_ (some 22) rfl rfl Try.func51 (by kernel_rfl) rfl #[.slice A2 l2.length c2, .string (rdOf ByteArray.empty l1_2 x7_1)] rfl (by (try simp only [List.map_toArray, List.map_cons, List.map_nil]); first | done | rfl | (simp only [List.length_drop, List.length_take]; rfl)) ?_; (with_reducible refine (spec_l3Has.calls k1 _ _ l2 (rdOf ByteArray.empty l1_2 x7_1) false _ ?side1 ?side2 A7.out).mono ?_); (case side1 => repeat (first | exact (Kd.C_below HR2.out HB.out) | (with_reducible refine Kd.C_alloc ?_ _) | (with_reducible refine Kd.C_drewN ?_ _) | (with_reducible refine Kd.C_drew ?_))); (case side2 => exact HC2.out); rintro e w' ⟨rfl, ⟨nd, rfl⟩⟩; refine ⟨_, rfl, ?_⟩))
            go_ret
            exact ⟨by first | rfl | (simp [errW_none, errW_some] <;> rfl) | (simp [*, errW_none, errW_some] <;> rfl), by repeat (first | (with_reducible first | exact HB.out | apply below_alloc | apply pw_below_drewN | apply below_drew1 | refine below_set ?_ GE119.out) | exact HB.out)⟩
        · rw [if_neg c6] at H
          exact absurd H (by simp)
      · rw [if_neg c5] at H
        have c5b0 : decide (x7_1 < (l1_2.length : Int)) = false := decide_eq_false c5
        clear c5
        have H' := Aside0.mk H
        clear H
        have hcz11_0 : wr.cell? ⟨gb119, 0, none⟩ = some (.string a1_0) := (blk_cell BK119.out 0).trans rfl
        have hcz11_1 : wr.cell? ⟨gb119, 1, none⟩ = some (.slice A1_1 l1_1.length c1_1) := (blk_cell BK119.out 1).trans rfl
        have hcz11_2 : wr.cell? ⟨gb119, 2, none⟩ = some (.slice A1_2 l1_2.length c1_2) := (blk_cell BK119.out 2).trans rfl
        have hcz11_3 : wr.cell? ⟨gb119, 3, none⟩ = some (.string a1_3) := (blk_cell BK119.out 3).trans rfl
        have hcz11_4 : wr.cell? ⟨gb119, 4, none⟩ = some (.bool a1_4) := (blk_cell BK119.out 4).trans rfl
        have hfz11_0 := blk_frozen BK119.out 0
        have hfz11_1 := blk_frozen BK119.out 1
        have hfz11_2 := blk_frozen BK119.out 2
        have hfz11_3 := blk_frozen BK119.out 3
        have hfz11_4 := blk_frozen BK119.out 4
        go_wp2
        go_loopg [8] k1 (fun kq v8 w' => ∃ (x8_2 : Int), v8 = .int .i64 x8_2 ∧ Aside0 (spec_l18Ready.l1 kq l0 l2 x8_2 a1_0 l1_1 l1_2 a1_3 a1_4 = some r) ∧ Aside0 (kq ≤ k1) ∧ Aside0 (w'.heap[gb119]? = some (.cells #[.string a1_0, (.slice A1_1 l1_1.length c1_1), (.slice A1_2 l1_2.length c1_2), .string a1_3, .bool a1_4] 32 (0, 0))) ∧ Aside0 (Below w.heap.size w w'))
        case atStart => exact ⟨(0), (by first | rfl | (simp; done) | (simp [*]; done)), H', ⟨Nat.le_refl _⟩, ⟨by (with_reducible repeat (first | refine blk_drewN ?_ _ | refine blk_drew ?_ | refine blk_alloc ?_ _)); exact BK119.out⟩, ⟨by repeat (first | (with_reducible first | exact HB.out | apply below_alloc | apply pw_below_drewN | apply below_drew1 | refine below_set ?_ GE119.out) | exact HB.out)⟩⟩
        case round =>
          clear H'
          try clear c1
          try clear p1
          try clear q1
          try clear hx1
          try clear c2
          try clear p2
          try clear c5
          try clear c5b0
          try clear c6
          try clear c6b0
          try clear p6
          try clear c8
          try clear hcz10_0
          try clear hcz10_1
          try clear hcz10_2
          try clear hcz10_3
          try clear hcz10_4
          try clear hcz11_0
          try clear hcz11_1
          try clear hcz11_2
          try clear hcz11_3
          try clear hcz11_4
          try clear hcz9_0
          try clear hcz9_1
          try clear hcz9_2
          try clear hcz9_3
          try clear hcz9_4
          try clear hfz10_0
          try clear hfz10_1
          try clear hfz10_2
          try clear hfz10_3
          try clear hfz10_4
          try clear hfz11_0
          try clear hfz11_1
          try clear hfz11_2
          try clear hfz11_3
          try clear hfz11_4
          try clear hfz9_0
          try clear hfz9_1
          try clear hfz9_2
          try clear hfz9_3
          try clear hfz9_4
          try clear hx120_0
          try clear p120
          try clear p2
          try clear q120
          obtain ⟨x8_2, rfl, HA, HK2, BK119, HB⟩ := hrel
          cases gk with
          | zero => exact absurd HA.out (by simp [spec_l18Ready.l1])
          | succ k2 =>
            have H := HA.out
            clear HA
            simp only [spec_l18Ready.l1] at H
            by_cases c12 : x8_2 < (l1_1.length : Int)
            · rw [if_pos c12] at H
              have c12b0 : decide (x8_2 < (l1_1.length : Int)) = true := decide_eq_true c12
              clear c12
              by_cases c13 : 0 ≤ x8_2
              · rw [if_pos c13] at H
                have c13b0 : decide (0 ≤ x8_2) = true := decide_eq_true c13
                clear c13
                replace H := Option.bind_eq_some_iff.mp H
                obtain ⟨t123, A140, H⟩ := H
                replace H : (if t123 ≥ 0 then ((spec_l3Has.f k2 l2 (rdOf ByteArray.empty l1_1 x8_2)).bind fun t125 => (if t125 = true then (spec_l18Ready.l1 k2 l0 l2 (wrap64 (x8_2 + 1)) a1_0 l1_1 l1_2 a1_3 a1_4) else (some false))) else (spec_l18Ready.l1 k2 l0 l2 (wrap64 (x8_2 + 1)) a1_0 l1_1 l1_2 a1_3 a1_4)) = some r := H
                have A14 := Aside0.mk A140
                clear A140
                by_cases c15 : t123 ≥ 0
                · rw [if_pos c15] at H
                  have c15b0 : decide (0 ≤ t123) = true := decide_eq_true c15
                  clear c15
                  replace H := Option.bind_eq_some_iff.mp H
                  obtain ⟨t125, A160, H⟩ := H
                  replace H : (if t125 = true then (spec_l18Ready.l1 k2 l0 l2 (wrap64 (x8_2 + 1)) a1_0 l1_1 l1_2 a1_3 a1_4) else (some false)) = some r := H
                  have A16 := Aside0.mk A160
                  clear A160
                  by_cases c17 : t125 = true
                  · subst c17
                    have H1 : (spec_l18Ready.l1 k2 l0 l2 (wrap64 (x8_2 + 1)) a1_0 l1_1 l1_2 a1_3 a1_4) = some r := by rw [if_pos rfl] at H; exact H
                    clear H
                    have H := H1
                    clear H1
                    have H' := Aside0.mk H
                    clear H
                    have hcz18_0 : wr.cell? ⟨gb119, 0, none⟩ = some (.string a1_0) := (blk_cell BK119.out 0).trans rfl
                    have hcz18_1 : wr.cell? ⟨gb119, 1, none⟩ = some (.slice A1_1 l1_1.length c1_1) := (blk_cell BK119.out 1).trans rfl
                    have hcz18_2 : wr.cell? ⟨gb119, 2, none⟩ = some (.slice A1_2 l1_2.length c1_2) := (blk_cell BK119.out 2).trans rfl
                    have hcz18_3 : wr.cell? ⟨gb119, 3, none⟩ = some (.string a1_3) := (blk_cell BK119.out 3).trans rfl
                    have hcz18_4 : wr.cell? ⟨gb119, 4, none⟩ = some (.bool a1_4) := (blk_cell BK119.out 4).trans rfl
                    have hfz18_0 := blk_frozen BK119.out 0
                    have hfz18_1 := blk_frozen BK119.out 1
                    have hfz18_2 := blk_frozen BK119.out 2
                    have hfz18_3 := blk_frozen BK119.out 3
                    have hfz18_4 := blk_frozen BK119.out 4
                    have p122 : 0 ≤ (x8_2 : Int) := of_decide_eq_true (by first | (with_reducible assumption) | assumption)
                    have q122 : x8_2 < (l1_1.length : Int) := of_decide_eq_true (by first | (with_reducible assumption) | assumption)
                    obtain ⟨ad122, e122, hx122_0⟩ := Kd.at_string HR1_1.out x8_2 p122 q122
                    cases e122
                    replace hx122_0 := (HB.out.cell (World.block_lt_of_cell? w _ hx122_0)).trans hx122_0
                    replace p122 := eq_true p122
                    replace q122 := eq_true q122
                    go_wp2_with (first | ((with_reducible refine gate_callee (f := 52) rfl ?_); refine goesL_ (some 37) rfl rfl Try.func52 (by kernel_rfl) rfl #[.slice A0 l0.length c0, .string (rdOf ByteArray.empty l1_1 x8_2)] rfl (by (try simp only [List.map_toArray, List.map_cons, List.map_nil]); first | done | rfl | (simp only [List.length_drop, List.length_take]; rfl)) ?_; (with_reducible refine (spec_l18Find.calls k2 _ _ l0 (rdOf ByteArray.empty l1_1 x8_2) t123 _ ?side1 ?side2 A14.out).mono ?_); (case side1 => repeat (first | exact (Kd.C_below HR0.out HB.out) | (with_reducible refine Kd.C_alloc ?_ _) | (with_reducible refine Kd.C_drewN ?_ _) | (with_reducible refine Kd.C_drew ?_))); (case side2 => exact HC0.out); rintro e w' ⟨rfl, ⟨nd, rfl⟩⟩; refine ⟨_, rfl, ?_⟩; have p124 : 0 ≤ (x8_2 : Int) := of_decide_eq_true (by first | (with_reducible assumption) | assumption); have q124 : x8_2 < (l1_1.length : Int) := of_decide_eq_true (by first | (with_reducible assumption) | assumption); obtain ⟨ad124, e124, hx124_0⟩ := Kd.at_string HR1_1.out x8_2 p124 q124; obtain rfl : ad122 = ad124 := (by injection e124); replace hx124_0 := (HB.out.cell (World.block_lt_of_cell? w _ hx124_0)).trans hx124_0; replace p124 := eq_true p124; replace q124 := eq_true q124) | (go_at_call 51; (with_reducible refine (spec_l3Has.calls k2 _ _ l2 (rdOf ByteArray.empty l1_1 x8_2) true _ ?side1 ?side2 A16.out).mono ?_); (case side1 => repeat (first | exact (Kd.C_below HR2.out (by repeat (first | (with_reducible first | exact HB.out | apply below_alloc | apply pw_below_drewN | apply below_drew1 | refine below_set ?_ GE119.out) | exact HB.out))) | (with_reducible refine Kd.C_alloc ?_ _) | (with_reducible refine Kd.C_drewN ?_ _) | (with_reducible refine Kd.C_drew ?_))); (case side2 => exact HC2.out); rintro e w' ⟨rfl, ⟨nd, rfl⟩⟩))
                    go_roundg k2
                    case measure => have := HK1.out; have := HK2.out; omega
                    case rel => exact ⟨(wrap64 (x8_2 + 1)), (by first | rfl | (simp; done) | (simp [*]; done)), H', ⟨by have := HK1.out; have := HK2.out; omega⟩, ⟨by (with_reducible repeat (first | refine blk_drewN ?_ _ | refine blk_drew ?_ | refine blk_alloc ?_ _)); exact BK119.out⟩, ⟨by repeat (first | (with_reducible first | exact HB.out | apply below_alloc | apply pw_below_drewN | apply below_drew1 | refine below_set ?_ GE119.out) | exact HB.out)⟩⟩
                  · replace c17 := Bool.eq_false_iff.mpr c17
                    subst c17
                    have H1 : (some false) = some r := by rw [if_neg (show ¬ (false = true) by decide)] at H; exact H
                    clear H
                    have H := H1
                    clear H1
                    obtain rfl := Option.some.inj H
                    have hcz19_0 : wr.cell? ⟨gb119, 0, none⟩ = some (.string a1_0) := (blk_cell BK119.out 0).trans rfl
                    have hcz19_1 : wr.cell? ⟨gb119, 1, none⟩ = some (.slice A1_1 l1_1.length c1_1) := (blk_cell BK119.out 1).trans rfl
                    have hcz19_2 : wr.cell? ⟨gb119, 2, none⟩ = some (.slice A1_2 l1_2.length c1_2) := (blk_cell BK119.out 2).trans rfl
                    have hcz19_3 : wr.cell? ⟨gb119, 3, none⟩ = some (.string a1_3) := (blk_cell BK119.out 3).trans rfl
                    have hcz19_4 : wr.cell? ⟨gb119, 4, none⟩ = some (.bool a1_4) := (blk_cell BK119.out 4).trans rfl
                    have hfz19_0 := blk_frozen BK119.out 0
                    have hfz19_1 := blk_frozen BK119.out 1
                    have hfz19_2 := blk_frozen BK119.out 2
                    have hfz19_3 := blk_frozen BK119.out 3
                    have hfz19_4 := blk_frozen BK119.out 4
                    have p122 : 0 ≤ (x8_2 : Int) := of_decide_eq_true (by first | (with_reducible assumption) | assumption)
                    have q122 : x8_2 < (l1_1.length : Int) := of_decide_eq_true (by first | (with_reducible assumption) | assumption)
                    obtain ⟨ad122, e122, hx122_0⟩ := Kd.at_string HR1_1.out x8_2 p122 q122
                    cases e122
                    replace hx122_0 := (HB.out.cell (World.block_lt_of_cell? w _ hx122_0)).trans hx122_0
                    replace p122 := eq_true p122
                    replace q122 := eq_true q122
                    go_wp2_with (first | ((with_reducible refine gate_callee (f := 52) rfl ?_); refine goesL_ (some 37) rfl rfl Try.func52 (by kernel_rfl) rfl #[.slice A0 l0.length c0, .string (rdOf ByteArray.empty l1_1 x8_2)] rfl (by (try simp only [List.map_toArray, List.map_cons, List.map_nil]); first | done | rfl | (simp only [List.length_drop, List.length_take]; rfl)) ?_; (with_reducible refine (spec_l18Find.calls k2 _ _ l0 (rdOf ByteArray.empty l1_1 x8_2) t123 _ ?side1 ?side2 A14.out).mono ?_); (case side1 => repeat (first | exact (Kd.C_below HR0.out HB.out) | (with_reducible refine Kd.C_alloc ?_ _) | (with_reducible refine Kd.C_drewN ?_ _) | (with_reducible refine Kd.C_drew ?_))); (case side2 => exact HC0.out); rintro e w' ⟨rfl, ⟨nd, rfl⟩⟩; refine ⟨_, rfl, ?_⟩; have p124 : 0 ≤ (x8_2 : Int) := of_decide_eq_true (by first | (with_reducible assumption) | assumption); have q124 : x8_2 < (l1_1.length : Int) := of_decide_eq_true (by first | (with_reducible assumption) | assumption); obtain ⟨ad124, e124, hx124_0⟩ := Kd.at_string HR1_1.out x8_2 p124 q124; obtain rfl : ad122 = ad124 := (by injection e124); replace hx124_0 := (HB.out.cell (World.block_lt_of_cell? w _ hx124_0)).trans hx124_0; replace p124 := eq_true p124; replace q124 := eq_true q124) | (go_at_call 51; (with_reducible refine (spec_l3Has.calls k2 _ _ l2 (rdOf ByteArray.empty l1_1 x8_2) false _ ?side1 ?side2 A16.out).mono ?_); (case side1 => repeat (first | exact (Kd.C_below HR2.out (by repeat (first | (with_reducible first | exact HB.out | apply below_alloc | apply pw_below_drewN | apply below_drew1 | refine below_set ?_ GE119.out) | exact HB.out))) | (with_reducible refine Kd.C_alloc ?_ _) | (with_reducible refine Kd.C_drewN ?_ _) | (with_reducible refine Kd.C_drew ?_))); (case side2 => exact HC2.out); rintro e w' ⟨rfl, ⟨nd, rfl⟩⟩))
                    go_ret
                    exact ⟨by first | rfl | (simp [errW_none, errW_some] <;> rfl) | (simp [*, errW_none, errW_some] <;> rfl), by repeat (first | (with_reducible first | exact HB.out | apply below_alloc | apply pw_below_drewN | apply below_drew1 | refine below_set ?_ GE119.out) | exact HB.out)⟩
                · rw [if_neg c15] at H
                  have c15b0 : decide (0 ≤ t123) = false := decide_eq_false c15
                  clear c15
                  have H' := Aside0.mk H
                  clear H
                  have hcz20_0 : wr.cell? ⟨gb119, 0, none⟩ = some (.string a1_0) := (blk_cell BK119.out 0).trans rfl
                  have hcz20_1 : wr.cell? ⟨gb119, 1, none⟩ = some (.slice A1_1 l1_1.length c1_1) := (blk_cell BK119.out 1).trans rfl
                  have hcz20_2 : wr.cell? ⟨gb119, 2, none⟩ = some (.slice A1_2 l1_2.length c1_2) := (blk_cell BK119.out 2).trans rfl
                  have hcz20_3 : wr.cell? ⟨gb119, 3, none⟩ = some (.string a1_3) := (blk_cell BK119.out 3).trans rfl
                  have hcz20_4 : wr.cell? ⟨gb119, 4, none⟩ = some (.bool a1_4) := (blk_cell BK119.out 4).trans rfl
                  have hfz20_0 := blk_frozen BK119.out 0
                  have hfz20_1 := blk_frozen BK119.out 1
                  have hfz20_2 := blk_frozen BK119.out 2
                  have hfz20_3 := blk_frozen BK119.out 3
                  have hfz20_4 := blk_frozen BK119.out 4
                  have p122 : 0 ≤ (x8_2 : Int) := of_decide_eq_true (by first | (with_reducible assumption) | assumption)
                  have q122 : x8_2 < (l1_1.length : Int) := of_decide_eq_true (by first | (with_reducible assumption) | assumption)
                  obtain ⟨ad122, e122, hx122_0⟩ := Kd.at_string HR1_1.out x8_2 p122 q122
                  cases e122
                  replace hx122_0 := (HB.out.cell (World.block_lt_of_cell? w _ hx122_0)).trans hx122_0
                  replace p122 := eq_true p122
                  replace q122 := eq_true q122
                  go_wp2_with (first | ((with_reducible refine gate_callee (f := 52) rfl ?_); refine goesL_ (some 37) rfl rfl Try.func52 (by kernel_rfl) rfl #[.slice A0 l0.length c0, .string (rdOf ByteArray.empty l1_1 x8_2)] rfl (by (try simp only [List.map_toArray, List.map_cons, List.map_nil]); first | done | rfl | (simp only [List.length_drop, List.length_take]; rfl)) ?_; (with_reducible refine (spec_l18Find.calls k2 _ _ l0 (rdOf ByteArray.empty l1_1 x8_2) t123 _ ?side1 ?side2 A14.out).mono ?_); (case side1 => repeat (first | exact (Kd.C_below HR0.out HB.out) | (with_reducible refine Kd.C_alloc ?_ _) | (with_reducible refine Kd.C_drewN ?_ _) | (with_reducible refine Kd.C_drew ?_))); (case side2 => exact HC0.out); rintro e w' ⟨rfl, ⟨nd, rfl⟩⟩; refine ⟨_, rfl, ?_⟩))
                  go_roundg k2
                  case measure => have := HK1.out; have := HK2.out; omega
                  case rel => exact ⟨(wrap64 (x8_2 + 1)), (by first | rfl | (simp; done) | (simp [*]; done)), H', ⟨by have := HK1.out; have := HK2.out; omega⟩, ⟨by (with_reducible repeat (first | refine blk_drewN ?_ _ | refine blk_drew ?_ | refine blk_alloc ?_ _)); exact BK119.out⟩, ⟨by repeat (first | (with_reducible first | exact HB.out | apply below_alloc | apply pw_below_drewN | apply below_drew1 | refine below_set ?_ GE119.out) | exact HB.out)⟩⟩
              · rw [if_neg c13] at H
                exact absurd H (by simp)
            · rw [if_neg c12] at H
              have c12b0 : decide (x8_2 < (l1_1.length : Int)) = false := decide_eq_false c12
              clear c12
              obtain rfl := Option.some.inj H
              have hcz21_0 : wr.cell? ⟨gb119, 0, none⟩ = some (.string a1_0) := (blk_cell BK119.out 0).trans rfl
              have hcz21_1 : wr.cell? ⟨gb119, 1, none⟩ = some (.slice A1_1 l1_1.length c1_1) := (blk_cell BK119.out 1).trans rfl
              have hcz21_2 : wr.cell? ⟨gb119, 2, none⟩ = some (.slice A1_2 l1_2.length c1_2) := (blk_cell BK119.out 2).trans rfl
              have hcz21_3 : wr.cell? ⟨gb119, 3, none⟩ = some (.string a1_3) := (blk_cell BK119.out 3).trans rfl
              have hcz21_4 : wr.cell? ⟨gb119, 4, none⟩ = some (.bool a1_4) := (blk_cell BK119.out 4).trans rfl
              have hfz21_0 := blk_frozen BK119.out 0
              have hfz21_1 := blk_frozen BK119.out 1
              have hfz21_2 := blk_frozen BK119.out 2
              have hfz21_3 := blk_frozen BK119.out 3
              have hfz21_4 := blk_frozen BK119.out 4
              go_wp2
              go_ret
              exact ⟨by first | rfl | (simp [errW_none, errW_some] <;> rfl) | (simp [*, errW_none, errW_some] <;> rfl), by repeat (first | (with_reducible first | exact HB.out | apply below_alloc | apply pw_below_drewN | apply below_drew1 | refine below_set ?_ GE119.out) | exact HB.out)⟩
end Go.Proofs.Ytnjmhlhlmokjnaa.G
