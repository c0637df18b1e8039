/-
  Part 1 of the texts of this claim: G0, XMarks, XOpen, XDeltaPure, XNum, XRowF, GSpecL10Num, GSpecL14StepOk, GSpecDeltaBytes.
-/
import Derived.Test.YthofgkmfllccnaaProg
import Derived.WalkLawsBesides
import Derived.Below
import Derived.Deep.Draws
import Derived.Deep.AppendLies
import Derived.Maps.AppendAt
import Derived.OwnWalk
import Derived.Laws.BytesArg
import Derived.Laws.MakeOwn
import Derived.Laws.OwnMore
import Derived.Deep.OwnRows
import Derived.Tactics
import Derived.Lib.ConvBytes
import Derived.Laws.Slices
import Derived.WalkKit
import Derived.KernelRfl
import Derived.RowKit3
import Derived.Deep.LoopGhost
import Derived.Deep.QuietTactic
import Derived.BigQuiet
import Derived.WideLaws
import Derived.Deep.DeepCutAuto
import Derived.Deep.CutBlock
import Derived.Deep.RegionHeld3
import Derived.Laws.Rows
import Derived.Lib.AppendStr
import Derived.ArgAppend
import Derived.Laws.IdiomCopy
import Derived.OrdersHeld
import Derived.Laws.BitsLemmas
import Derived.RowKit
import Derived.Deep.Slices
import Derived.Deep.Fields
import Derived.ChangeSame
import Derived.Lib.SmallJoins
import Derived.Lib.SlBytesConst
import Derived.Test.YthofgkmfllccnaaRdWWords
import Derived.Test.YthofgkmfllccnaaRdWLast
import Derived.Test.YthofgkmfllccnaaRdWTab
import Derived.Test.YthofgkmfllccnaaRdWApart
import Derived.Test.YthofgkmfllccnaaRdWFoot
import Derived.Test.YthofgkmfllccnaaRdWKept
import Derived.Test.YthofgkmfllccnaaRdWShare
import Derived.Test.YthofgkmfllccnaaRdWN
import Derived.Test.YthofgkmfllccnaaRdWRepsOne
import Derived.Test.YthofgkmfllccnaaRdWGuard
import Derived.Test.YthofgkmfllccnaaRdWNEv
import Derived.Test.YthofgkmfllccnaaRdWMore
namespace Go.Proofs.Ythofgkmfllccnaa.G
open Go.RowKit Go.Proofs.YthofgkmfllccnaaW.PrintWords Go.Proofs.YthofgkmfllccnaaW.PrintLast Go.Proofs.YthofgkmfllccnaaW.PrintMore
attribute [local go_sem] max2_int min2_int max_two min_two max_three min_three max_four min_four
set_option linter.unusedVariables false
set_option linter.unusedSimpArgs false
def errW : Option Int → Value
  | none => .nilIface
  | some c => .iface 0 (.int .i64 c)
theorem errW_none : errW none = .nilIface := rfl
theorem errW_some (c : Int) : errW (some c) = .iface 0 (.int .i64 c) := rfl
theorem info5 : (Try.prog.info? 5).map (fun i => (i.zero, i.size, i.bytes)) = some (some (.int .u8 0), 1, 1) := by kernel_rfl
theorem info43 : (Try.prog.info? 43).map (fun i => (i.zero, i.size, i.bytes)) = some (some (.agg #[(.int .i64 0), (.int .i64 0), (.int .i64 0), (.slice none 0 0)]), 4, 48) := by kernel_rfl
structure S43 where
  f0 : Int
  f1 : Int
  f2 : Int
  f3 : (List Int)
def z43 : S43 := ⟨(0 : Int), (0 : Int), (0 : Int), ([] : List Int)⟩
def k43 : Kd S43 := Kd.iso (Kd.pair (Kd.int .i64) (Kd.pair (Kd.int .i64) (Kd.pair (Kd.int .i64) (Kd.slice 5 (Kd.int .u8))))) (fun x : S43 => (x.f0, x.f1, x.f2, x.f3))
theorem k43_open {w : World} {x : S43} {cs : List Value} (h : k43.K w x cs) : ∃ A3 c3, cs = [.int .i64 x.f0, .int .i64 x.f1, .int .i64 x.f2, .slice A3 x.f3.length c3] ∧ x.f3.length ≤ c3 ∧ (Kd.int .u8).C w A3 x.f3.length x.f3 := by
  obtain ⟨_, _, rfl, rfl, ⟨_, _, rfl, rfl, ⟨_, _, rfl, rfl, ⟨A3, c3, rfl, l3, g3⟩⟩⟩⟩ := h
  exact ⟨A3, c3, rfl, l3, g3⟩
theorem k43_openM {w : World} {base : Nat} {ok : Nat → Prop} {x : S43} {cs : List Value} (h : k43.M w base ok x cs) : ∃ v3, cs = [.int .i64 x.f0, .int .i64 x.f1, .int .i64 x.f2, v3] ∧ (Kd.int .u8).R 5 w base ok v3 x.f3 := by
  obtain ⟨_, _, rfl, rfl, ⟨_, _, rfl, rfl, ⟨_, _, rfl, rfl, ⟨v3, rfl, g3⟩⟩⟩⟩ := h
  exact ⟨v3, rfl, g3⟩
theorem k43_mk (w : World) (x : S43) {A3 : Option Addr} {c3 : Nat} (l3 : x.f3.length ≤ c3) (g3 : (Kd.int .u8).C w A3 x.f3.length x.f3) : k43.K w x [.int .i64 x.f0, .int .i64 x.f1, .int .i64 x.f2, .slice A3 x.f3.length c3] := ⟨[.int .i64 x.f0], [.int .i64 x.f1, .int .i64 x.f2, .slice A3 x.f3.length c3], rfl, rfl, ⟨[.int .i64 x.f1], [.int .i64 x.f2, .slice A3 x.f3.length c3], rfl, rfl, ⟨[.int .i64 x.f2], [.slice A3 x.f3.length c3], rfl, rfl, ⟨A3, c3, rfl, l3, g3⟩⟩⟩⟩
theorem k43_mkM (w : World) (base : Nat) (ok : Nat → Prop) (x : S43) {v3 : Value} (g3 : (Kd.int .u8).R 5 w base ok v3 x.f3) : k43.M w base ok x [.int .i64 x.f0, .int .i64 x.f1, .int .i64 x.f2, v3] := ⟨[.int .i64 x.f0], [.int .i64 x.f1, .int .i64 x.f2, v3], rfl, rfl, ⟨[.int .i64 x.f1], [.int .i64 x.f2, v3], rfl, rfl, ⟨[.int .i64 x.f2], [v3], rfl, rfl, ⟨v3, rfl, g3⟩⟩⟩⟩
def rd_T43 (xs : List S43) (i : Int) : S43 := xs.getD i.toNat z43
theorem at_T43 {w : World} {A : Option Addr} {n : Nat} {xs : List S43} (h : Kd.C k43 w A n xs) (i : Int) (h0 : 0 ≤ i) (h1 : i < n) : ∃ ad A3 c3, A = some ad ∧ w.cell? (ad.add (i.toNat * 4)) = some (.int .i64 (rd_T43 xs i).f0) ∧ w.cell? ⟨(ad.add (i.toNat * 4)).block, (ad.add (i.toNat * 4)).off + 1, none⟩ = some (.int .i64 (rd_T43 xs i).f1) ∧ w.cell? ⟨(ad.add (i.toNat * 4)).block, (ad.add (i.toNat * 4)).off + 2, none⟩ = some (.int .i64 (rd_T43 xs i).f2) ∧ w.cell? ⟨(ad.add (i.toNat * 4)).block, (ad.add (i.toNat * 4)).off + 3, none⟩ = some (.slice A3 (rd_T43 xs i).f3.length c3) ∧ (rd_T43 xs i).f3.length ≤ c3 ∧ (Kd.int .u8).C w A3 (rd_T43 xs i).f3.length (rd_T43 xs i).f3 := by
  obtain ⟨ad, c, e, _, hK, hc0⟩ := Kd.C_get h z43 i h0 h1
  have hc : ∀ j u, c[j]? = some u → w.cell? (ad.add (i.toNat * 4 + j)) = some u := hc0
  obtain ⟨A3, c3, rfl, l3, g3⟩ := k43_open hK
  exact ⟨ad, A3, c3, e, hc 0 _ rfl, by rw [← add_field _ _ 1 (by omega)]; exact hc 1 _ rfl, by rw [← add_field _ _ 2 (by omega)]; exact hc 2 _ rfl, by rw [← add_field _ _ 3 (by omega)]; exact hc 3 _ rfl, l3, g3⟩
end Go.Proofs.Ythofgkmfllccnaa.G
namespace Go.Proofs.Ythofgkmfllccnaa.G
open Go.RowKit Go.Proofs.YthofgkmfllccnaaW.PrintWords Go.Proofs.YthofgkmfllccnaaW.PrintLast
set_option linter.unusedVariables false
set_option linter.unusedSimpArgs false
def Like (u u' : Value) : Prop := u' = u ∨ (∃ a b, u = .string a ∧ u' = .string b) ∨ (∃ k a b, u = .int k a ∧ u' = .int k b) ∨ (∃ a b, u = .bool a ∧ u' = .bool b)
theorem Like.refl (u : Value) : Like u u := .inl rfl
theorem Like.str (a b : ByteArray) : Like (.string a) (.string b) := .inr (.inl ⟨a, b, rfl, rfl⟩)
theorem Like.int (k : IntKind) (a b : Int) : Like (.int k a) (.int k b) := .inr (.inr (.inl ⟨k, a, b, rfl, rfl⟩))
theorem Like.bool (a b : Bool) : Like (.bool a) (.bool b) := .inr (.inr (.inr ⟨a, b, rfl, rfl⟩))
theorem Like.trans {a b c : Value} (h : Like a b) (k : Like b c) : Like a c := by
  rcases h with rfl | ⟨x, y, rfl, rfl⟩ | ⟨q, x, y, rfl, rfl⟩ | ⟨x, y, rfl, rfl⟩
  · exact k
  · rcases k with rfl | ⟨x', y', e, rfl⟩ | ⟨q, x', y', e, rfl⟩ | ⟨x', y', e, rfl⟩
    · exact Like.str _ _
    · exact Like.str _ _
    · cases e
    · cases e
  · rcases k with rfl | ⟨x', y', e, rfl⟩ | ⟨q, x', y', e, rfl⟩ | ⟨x', y', e, rfl⟩
    · exact Like.int _ _ _
    · cases e
    · injection e with e1 e2
      subst e1
      exact Like.int _ _ _
    · cases e
  · rcases k with rfl | ⟨x', y', e, rfl⟩ | ⟨q, x', y', e, rfl⟩ | ⟨x', y', e, rfl⟩
    · exact Like.bool _ _
    · cases e
    · cases e
    · exact Like.bool _ _
structure Marks (ok : Nat → Prop) (w w' : World) : Prop where
  os : w'.os = w.os
  tape : w'.tape = w.tape
  output : w'.output = w.output
  size : w.heap.size ≤ w'.heap.size
  other : ∀ k, k < w.heap.size → ¬ ok k → w'.heap[k]? = w.heap[k]?
  cells : ∀ (k : Nat) (cs : Array Value) (t : TypeId) (fr : Nat × Nat), w.heap[k]? = some (Obj.cells cs t fr) → ∃ cs' : Array Value, w'.heap[k]? = some (Obj.cells cs' t fr) ∧ cs'.size = cs.size ∧ ∀ (j : Nat) (u : Value), cs[j]? = some u → ∃ u' : Value, cs'[j]? = some u' ∧ Like u u'
section
variable {ok ok' : Nat → Prop} {w w' w2 : World}
theorem Marks.refl (ok : Nat → Prop) (w : World) : Marks ok w w := ⟨rfl, rfl, rfl, Nat.le_refl _, fun _ _ _ => rfl, fun k cs t fr h => ⟨cs, h, rfl, fun j u hu => ⟨u, hu, .refl u⟩⟩⟩
theorem Marks.trans (h : Marks ok w w') (k : Marks ok w' w2) : Marks ok w w2 :=
  ⟨k.os.trans h.os, k.tape.trans h.tape, k.output.trans h.output, Nat.le_trans h.size k.size, fun i hi hn => (k.other i (Nat.lt_of_lt_of_le hi h.size) hn).trans (h.other i hi hn), fun i cs t fr hc => by
    obtain ⟨cs1, h1, h2, h3⟩ := h.cells i cs t fr hc
    obtain ⟨cs2, k1, k2, k3⟩ := k.cells i cs1 t fr h1
    refine ⟨cs2, k1, k2.trans h2, fun j u hu => ?_⟩
    obtain ⟨u1, e1, l1⟩ := h3 j u hu
    obtain ⟨u2, e2, l2⟩ := k3 j u1 e1
    exact ⟨u2, e2, l1.trans l2⟩⟩
theorem Marks.mono (h : Marks ok w w') (hk : ∀ k, ok k → ok' k) : Marks ok' w w' := ⟨h.os, h.tape, h.output, h.size, fun i hi hn => h.other i hi (fun hx => hn (hk i hx)), h.cells⟩
theorem Marks.of_below (h : Below w.heap.size w w') : Marks ok w w' := by
  refine ⟨h.os, h.tape, h.output, h.size, fun k hk _ => h.block k hk, fun k cs t fr hc => ⟨cs, (h.block k ?_).trans hc, rfl, fun j u hu => ⟨u, hu, .refl u⟩⟩⟩
  exact (Array.getElem?_eq_some_iff.1 hc).1
theorem Marks.below (h : Marks ok w w') (k : Below w'.heap.size w' w2) : Marks ok w w2 := h.trans (.of_below k)
theorem Marks.set {g j : Nat} {cs : Array Value} {t : TypeId} {fr : Nat × Nat} {u u' : Value} (hb : w.heap[g]? = some (.cells cs t fr)) (hu : cs[j]? = some u) (hl : Like u u') (hg : ok g) : Marks ok w (w.setCell ⟨g, j, none⟩ u') := by
  have hgs : g < w.heap.size := (Array.getElem?_eq_some_iff.1 hb).1
  refine ⟨rfl, rfl, rfl, by simp [World.setCell], fun k hk hn => Below.heap_setCell w ⟨g, j, none⟩ u' k (fun e => hn (e ▸ hg)), fun k cs1 t1 fr1 hc => ?_⟩
  by_cases hk : k = g
  · subst hk
    rw [hb] at hc
    injection hc with hc
    injection hc with h1 h2 h3
    subst h1 h2 h3
    refine ⟨cs.setIfInBounds j u', by simp [World.setCell, Array.getElem?_modify, hb], by simp, fun i v hv => ?_⟩
    by_cases hij : i = j
    · subst hij
      rw [hu] at hv
      obtain rfl := Option.some.inj hv
      have hlt := (Array.getElem?_eq_some_iff.1 hu).1
      exact ⟨u', by simp [hlt], hl⟩
    · exact ⟨v, by simp [Array.getElem?_setIfInBounds, Ne.symm hij, hv], .refl v⟩
  · refine ⟨cs1, ?_, rfl, fun j u hu => ⟨u, hu, .refl u⟩⟩
    exact (Below.heap_setCell w ⟨g, j, none⟩ u' k hk).trans hc
theorem Marks.to_below {B : Nat} {w0 : World} (h : Below B w0 w) (hB : B ≤ w.heap.size) (k : Marks ok w w') (hk : ∀ i, ok i → B ≤ i) : Below B w0 w' :=
  ⟨k.os.trans h.os, k.tape.trans h.tape, k.output.trans h.output, Nat.le_trans h.size k.size, fun i hi => (k.other i (by omega) (fun e => by have := hk i e; omega)).trans (h.block i hi)⟩
theorem cell_blk {g j : Nat} {u : Value} {cs : Array Value} {t : TypeId} (hb : w.heap[g]? = some (.cells cs t (0, 0))) (h : w.cell? ⟨g, j, none⟩ = some u) : cs[j]? = some u := by
  rw [cell_of_row w g j cs t (0, 0) hb] at h
  exact h
theorem Marks.store {g j : Nat} {cs : Array Value} {t : TypeId} {u u' : Value} (h : Marks ok w w') (hb : w'.heap[g]? = some (.cells cs t (0, 0))) (hu : w'.cell? ⟨g, j, none⟩ = some u) (hl : Like u u') (hg : ok g) : Marks ok w (w'.setCell ⟨g, j, none⟩ u') :=
  h.trans (.set hb (cell_blk hb hu) hl hg)
end
def Likes (cs cs' : List Value) : Prop := cs'.length = cs.length ∧ ∀ (j : Nat) (u : Value), cs[j]? = some u → ∃ u' : Value, cs'[j]? = some u' ∧ Like u u'
theorem Likes.one {u : Value} {cs' : List Value} (h : Likes [u] cs') : ∃ u', cs' = [u'] ∧ Like u u' := by
  obtain ⟨hl, h⟩ := h
  match cs', hl with
  | [v], _ =>
    obtain ⟨u', e, hk⟩ := h 0 u rfl
    obtain rfl := Option.some.inj e
    exact ⟨_, rfl, hk⟩
theorem Likes.split {a b cs' : List Value} (h : Likes (a ++ b) cs') : ∃ a' b', cs' = a' ++ b' ∧ Likes a a' ∧ Likes b b' := by
  obtain ⟨hl, h⟩ := h
  rw [List.length_append] at hl
  refine ⟨cs'.take a.length, cs'.drop a.length, (List.take_append_drop _ _).symm, ⟨by rw [List.length_take]; omega, fun j u hu => ?_⟩, ⟨by rw [List.length_drop]; omega, fun j u hu => ?_⟩⟩
  · have hj := (List.getElem?_eq_some_iff.1 hu).1
    obtain ⟨u', e, k⟩ := h j u (by rw [List.getElem?_append_left hj]; exact hu)
    exact ⟨u', by rw [List.getElem?_take, if_pos hj]; exact e, k⟩
  · obtain ⟨u', e, k⟩ := h (a.length + j) u (by rw [List.getElem?_append_right (by omega)]; simpa using hu)
    exact ⟨u', by rw [List.getElem?_drop]; exact e, k⟩
end Go.Proofs.Ythofgkmfllccnaa.G
namespace Go.Proofs.Ythofgkmfllccnaa.G
open Go.RowKit Go.ChangeShapes Go.WideShapes Go.Deep Go.Proofs.YthofgkmfllccnaaW.PrintWords Go.Proofs.YthofgkmfllccnaaW.PrintLast
set_option linter.unusedVariables false
set_option linter.unusedSimpArgs false
section
variable {H : Type} (enc : TypeId × Value → H) (P : Program) (w : World) (base : Nat) (spare : Nat → Bool) (held : Bool)
def Opens {α : Type} (t : TypeId) (d : Kd α) (G : α → Prop) : Prop :=
  ∀ (n : Nat) (cs : List Value) (x : DataW H × List MemPlace), DataW.trod enc P w base spare held n t cs = some x → ∃ a : α, d.K w a cs ∧ G a
variable {enc : TypeId × Value → H} {P : Program} {w : World} {base : Nat} {spare : Nat → Bool} {held : Bool}
theorem opens_int {t : TypeId} {k : IntKind} (ht : P.underlying t = some (.int k)) : Opens enc P w base spare held t (Kd.int k) (fun z => (Lit.int k z).wf = true) := by
  intro n cs x h
  obtain ⟨z, rfl, _, hz⟩ := DataW.trod_int ht h
  exact ⟨z, rfl, hz⟩
theorem list_of {α : Type} (Q : Nat → α → Prop) : ∀ n : Nat, (∀ i, i < n → ∃ a, Q i a) → ∃ l : List α, l.length = n ∧ ∀ i a, l[i]? = some a → Q i a
  | 0, _ => ⟨[], rfl, fun i a h => by cases h⟩
  | n + 1, h => by
    obtain ⟨l, hl, hq⟩ := list_of Q n (fun i hi => h i (by omega))
    obtain ⟨a, ha⟩ := h n (by omega)
    refine ⟨l ++ [a], by simp [hl], fun i b hb => ?_⟩
    rcases Nat.lt_or_ge i l.length with hi | hi
    · rw [List.getElem?_append_left hi] at hb
      exact hq i b hb
    · rw [List.getElem?_append_right hi] at hb
      have h0 : i - l.length = 0 := by
        have := (List.getElem?_eq_some_iff.1 hb).1
        simp at this
        omega
      rw [h0] at hb
      have : a = b := by simpa using hb
      subst this
      have : i = n := by omega
      subst this
      exact ha
theorem opens_slice {α : Type} {t e : TypeId} {d : Kd α} {G : α → Prop} (ht : P.underlying t = some (.slice e)) (hc : P.cellsOf e = d.sz) (he : Opens enc P w base spare held e d G) :
    Opens enc P w base spare held t (Kd.slice e d) (fun l => l.length ≤ 9223372036854775807 ∧ ∀ a ∈ l, G a) := by
  intro n cs x h
  rcases open_slice ht h with ⟨rfl, _⟩ | ⟨a, len, cap, m, n', D, Pl, rfl, hb, hl, hm, hmm, hx, hi⟩
  · exact ⟨[], ⟨none, 0, rfl, Nat.le_refl _, rfl, by simp, fun h => by simp at h⟩, by simp, by simp⟩
  · have hlm : len ≤ m := by rw [hmm]; split <;> omega
    obtain ⟨l, hll, hq⟩ := list_of (fun i (b : α) => (∃ c, c.length = d.sz ∧ d.K w b c ∧ ∀ j u, c[j]? = some u → w.cell? (a.add (i * d.sz + j)) = some u) ∧ G b) len (fun i hil => by
      obtain ⟨cs', h1, h2⟩ := hi i (by omega)
      obtain ⟨_, hcl, hat⟩ := World.cells?_some h1
      obtain ⟨b, hb1, hb2⟩ := he _ _ _ h2
      refine ⟨b, ⟨cs', by rw [hcl, hc], hb1, fun j u hu => ?_⟩, hb2⟩
      have hj : j < P.cellsOf e := by
        have := (List.getElem?_eq_some_iff.1 hu).1
        omega
      rw [← hc, ← Go.Deep.add_add, hat j hj, hu])
    unfold maxLen at hm
    refine ⟨l, ⟨some a, cap, by rw [hll], by omega, rfl, by omega, fun _ => ⟨a, rfl, fun j p hp => ?_⟩⟩, by omega, fun b hb => ?_⟩
    · exact (hq j p hp).1
    · obtain ⟨i, hi'⟩ := List.getElem?_of_mem hb
      exact (hq i b hi').2
end
end Go.Proofs.Ythofgkmfllccnaa.G
namespace Go.Proofs.Ythofgkmfllccnaa.G
set_option linter.unusedVariables false
set_option linter.unusedSimpArgs false
def Bytes (b : List Int) : Prop := ∀ x ∈ b, 0 ≤ x ∧ x ≤ 255
def num (n : Nat) : List Int := if h : 128 ≤ n then ((n % 128 + 128 : Nat) : Int) :: num (n / 128) else [(n : Int)]
termination_by n
decreasing_by omega
theorem num_lt {n : Nat} (h : n < 128) : num n = [(n : Int)] := by rw [num, dif_neg (by omega)]
theorem num_ge {n : Nat} (h : 128 ≤ n) : num n = ((n % 128 + 128 : Nat) : Int) :: num (n / 128) := by rw [num, dif_pos h]
def rv (b : List Int) : Nat → Bool → Nat → Option (Nat × Nat × Bool)
  | 0, _, _ => none
  | f + 1, first, i => match b[i]? with
    | none => none
    | some x => if x < 128 then some (x.toNat, i + 1, first || decide (x ≠ 0)) else (rv b f false (i + 1)).map (fun p => (x.toNat - 128 + 128 * p.1, p.2.1, p.2.2))
theorem drop_of {b : List Int} {i : Nat} {x : Int} (h : b[i]? = some x) : b.drop i = x :: b.drop (i + 1) := by
  obtain ⟨hl, e⟩ := List.getElem?_eq_some_iff.1 h
  rw [List.drop_eq_getElem_cons hl, e]
theorem of_drop {b : List Int} {i : Nat} {x : Int} {t : List Int} (h : b.drop i = x :: t) : b[i]? = some x ∧ b.drop (i + 1) = t := by
  have hl : i < b.length := by
    rcases Nat.lt_or_ge i b.length with hl | hl
    · exact hl
    · rw [List.drop_eq_nil_of_le hl] at h; cases h
  rw [List.drop_eq_getElem_cons hl] at h
  injection h with h1 h2
  exact ⟨by rw [List.getElem?_eq_getElem hl, h1], h2⟩
theorem rv_enc {b : List Int} (hb : Bytes b) : ∀ (f : Nat) (first : Bool) (i v j : Nat) (c : Bool), rv b f first i = some (v, j, c) →
    i < j ∧ j ≤ b.length ∧ v < 128 ^ f ∧ (c = true → first = true ∨ 1 ≤ v) ∧ (c = true → b.drop i = num v ++ b.drop j)
  | 0, first, i, v, j, c, h => by cases h
  | f + 1, first, i, v, j, c, h => by
    unfold rv at h
    cases hx : b[i]? with
    | none => rw [hx] at h; cases h
    | some x =>
      rw [hx] at h
      have hxb := hb x (List.mem_of_getElem? hx)
      have hil := (List.getElem?_eq_some_iff.1 hx).1
      have hp : 128 ≤ 128 ^ (f + 1) := by
        have : 1 ≤ 128 ^ f := Nat.one_le_pow _ _ (by omega)
        rw [Nat.pow_succ]; omega
      by_cases h128 : x < 128
      · simp only [if_pos h128] at h
        simp only [Option.some.injEq, Prod.mk.injEq] at h
        obtain ⟨rfl, rfl, rfl⟩ := h
        refine ⟨by omega, by omega, by omega, fun hc => ?_, fun _ => ?_⟩
        · simp only [Bool.or_eq_true, decide_eq_true_eq] at hc
          exact hc.imp id (fun hne => by omega)
        · rw [num_lt (by omega), drop_of hx]
          simp only [List.singleton_append, List.cons.injEq, and_true]
          omega
      · simp only [if_neg h128] at h
        obtain ⟨⟨v', j', c'⟩, h', e⟩ := Option.map_eq_some_iff.1 h
        simp only [Prod.mk.injEq] at e
        obtain ⟨rfl, rfl, rfl⟩ := e
        obtain ⟨k1, k2, k3, k4, k5⟩ := rv_enc hb f false (i + 1) v' j' c' h'
        refine ⟨by omega, k2, by rw [Nat.pow_succ]; omega, fun hc => ?_, fun hc => ?_⟩
        · rcases k4 hc with h0 | h0
          · cases h0
          · right; omega
        · have hv : 1 ≤ v' := by
            rcases k4 hc with h0 | h0
            · cases h0
            · exact h0
          rw [num_ge (by omega), drop_of hx, k5 hc, List.cons_append]
          have e1 : (x.toNat - 128 + 128 * v') % 128 + 128 = x.toNat := by omega
          have e2 : (x.toNat - 128 + 128 * v') / 128 = v' := by omega
          rw [e1, e2]
          congr 1
          omega
theorem rv_dec {b t : List Int} : ∀ (f : Nat) (first : Bool) (i n : Nat), n < 128 ^ (f + 1) → (first = true ∨ 1 ≤ n) → b.drop i = num n ++ t → rv b (f + 1) first i = some (n, i + (num n).length, true) := by
  intro f
  induction f with
  | zero =>
    intro first i n h h2 hd
    have hn : n < 128 := by simpa using h
    unfold rv
    rw [num_lt hn, List.cons_append] at hd
    obtain ⟨hx, _⟩ := of_drop hd
    rw [hx, num_lt hn]
    simp only [if_pos (show ((n : Int) < 128) by omega), List.length_singleton]
    have : (first || decide ((n : Int) ≠ 0)) = true := by
      rcases h2 with rfl | h2
      · rfl
      · rw [decide_eq_true (by omega)]; simp
    rw [this]
    congr 2
  | succ f ih =>
    intro first i n h h2 hd
    unfold rv
    by_cases hn : 128 ≤ n
    · rw [num_ge hn, List.cons_append] at hd
      obtain ⟨hx, hd'⟩ := of_drop hd
      have := ih false (i + 1) (n / 128) (by rw [Nat.pow_succ] at h; omega) (.inr (by omega)) hd'
      rw [hx, num_ge hn]
      simp only [if_neg (show ¬ (((n % 128 + 128 : Nat) : Int) < 128) by omega), this, Option.map_some]
      simp only [List.length_cons, Option.some.injEq, Prod.mk.injEq, and_true]
      omega
    · rw [num_lt (by omega), List.cons_append] at hd
      obtain ⟨hx, _⟩ := of_drop hd
      rw [hx, num_lt (by omega)]
      simp only [if_pos (show ((n : Int) < 128) by omega), List.length_singleton]
      have : (first || decide ((n : Int) ≠ 0)) = true := by
        rcases h2 with rfl | h2
        · rfl
        · rw [decide_eq_true (by omega)]; simp
      rw [this]
      congr 2
def okS (s : S43) : Bool := if s.f0 = 1 then decide (1 ≤ s.f2) && decide (s.f2 ≤ 268435455) && decide (0 ≤ s.f1) && decide (s.f1 ≤ 268435455) && decide (s.f3.length = 0) else decide (s.f0 = 2) && decide (s.f1 = 0) && decide (s.f2 = 0) && decide (0 < s.f3.length)
def encS (s : S43) : List Int := s.f0 % 256 :: (if s.f0 = 1 then num s.f1.toNat ++ num s.f2.toNat else num s.f3.length ++ s.f3)
def hdr : List Int := [76, 68, 84, 49]
def dbytes (ds : List S43) : List Int := if decide (ds.length ≤ 10000) && ds.all okS then hdr ++ ds.flatMap encS else []
def more (out : List S43) (s : S43) : Option (List S43) := if (out ++ [s]).length > 10000 then none else some (out ++ [s])
def one1 (b : List Int) (i : Nat) (x : Int) : Option (S43 × Nat) :=
  if x = 1 then (rv b 4 true (i + 1)).bind fun p => (rv b 4 true p.2.1).bind fun q => if p.2.2 && q.2.2 && decide (q.1 ≠ 0) then some (⟨1, p.1, q.1, []⟩, q.2.1) else none
  else if x = 2 then (rv b 4 true (i + 1)).bind fun p => if p.2.2 && decide (p.1 ≠ 0) && decide (p.1 ≤ b.length - p.2.1) then some (⟨2, 0, 0, (b.drop p.2.1).take p.1⟩, p.2.1 + p.1) else none
  else none
def one2 (b : List Int) (i : Nat) (x : Int) : Option (S43 × Nat) :=
  if x = 1 then (rv b 4 true (i + 1)).bind fun p => (rv b 4 true p.2.1).bind fun q => some (⟨1, p.1, q.1, []⟩, q.2.1)
  else (rv b 4 true (i + 1)).bind fun p => if p.1 ≤ b.length - p.2.1 then some (⟨x, 0, 0, (b.drop p.2.1).take p.1⟩, p.2.1 + p.1) else none
def steps (one : Nat → Int → Option (S43 × Nat)) (b : List Int) : Nat → Nat → List S43 → Option (List S43)
  | 0, _, _ => none
  | f + 1, i, out => match b[i]? with
    | none => some out
    | some x => (one i x).bind fun p => (more out p.1).bind fun o => steps one b f p.2 o
def ansOf : Option (List S43) → List S43 × Bool
  | none => ([], false)
  | some o => (o, true)
def strictF (b : List Int) : List S43 × Bool := if b.take 4 = hdr then ansOf (steps (one1 b) b (b.length + 1) 4 []) else ([], false)
def looseF (b : List Int) : List S43 × Bool := if b.take 4 = hdr then (match steps (one2 b) b (b.length + 1) 4 [] with | none => ([], false) | some o => if dbytes o = b then (o, true) else ([], false)) else ([], false)
theorem one1_ok {b : List Int} (hb : Bytes b) {i j : Nat} {x : Int} {s : S43} (hx : b[i]? = some x) (h : one1 b i x = some (s, j)) : one2 b i x = some (s, j) ∧ okS s = true ∧ b.drop i = encS s ++ b.drop j ∧ i < j := by
  unfold one1 at h
  unfold one2
  by_cases h1 : x = 1
  · rw [if_pos h1] at h ⊢
    obtain ⟨⟨n, k, c⟩, e1, h⟩ := Option.bind_eq_some_iff.1 h
    obtain ⟨⟨m, l, c2⟩, e2, h⟩ := Option.bind_eq_some_iff.1 h
    rw [e1, Option.bind_some, e2, Option.bind_some]
    split at h
    · rename_i hc
      simp only [Bool.and_eq_true, decide_eq_true_eq] at hc
      simp only [Option.some.injEq, Prod.mk.injEq] at h
      obtain ⟨rfl, rfl⟩ := h
      obtain ⟨a1, a2, a3, a4, a5⟩ := rv_enc hb _ _ _ _ _ _ e1
      obtain ⟨b1, b2, b3, b4, b5⟩ := rv_enc hb _ _ _ _ _ _ e2
      simp only at b1 b2 b3 b4 b5
      refine ⟨rfl, ?_, ?_, by omega⟩
      · unfold okS
        simp only [if_pos, Bool.and_eq_true, decide_eq_true_eq]
        have : (128 : Nat) ^ 4 = 268435456 := rfl
        have h0 := hc.2
        refine ⟨⟨⟨⟨?_, ?_⟩, ?_⟩, ?_⟩, rfl⟩ <;> omega
      · rw [drop_of hx, a5 hc.1.1, b5 hc.1.2]
        unfold encS
        simp [h1]
    · cases h
  · rw [if_neg h1] at h ⊢
    split at h
    · rename_i h2
      obtain ⟨⟨n, k, c⟩, e1, h⟩ := Option.bind_eq_some_iff.1 h
      rw [e1, Option.bind_some]
      split at h
      · rename_i hc
        simp only [Bool.and_eq_true, decide_eq_true_eq] at hc
        simp only [Option.some.injEq, Prod.mk.injEq] at h
        obtain ⟨rfl, rfl⟩ := h
        obtain ⟨a1, a2, a3, a4, a5⟩ := rv_enc hb _ _ _ _ _ _ e1
        have hlen : ((b.drop k).take n).length = n := by rw [List.length_take, List.length_drop]; omega
        refine ⟨by rw [if_pos hc.2, h2], ?_, ?_, by omega⟩
        · unfold okS
          rw [if_neg (show ¬ ((2 : Int) = 1) by decide), hlen]
          simp only [Bool.and_eq_true, decide_eq_true_eq]
          refine ⟨⟨⟨trivial, trivial⟩, trivial⟩, by omega⟩
        · rw [drop_of hx, a5 hc.1.1]
          unfold encS
          rw [if_neg (show ¬ ((2 : Int) = 1) by decide), hlen, h2, List.cons_append, List.append_assoc, ← List.drop_drop, List.take_append_drop]
          rfl
      · cases h
    · cases h
theorem one1_of {b t : List Int} {i : Nat} {s : S43} (hl : s.f3.length ≤ 1048576) (ho : okS s = true) (h : b.drop i = encS s ++ t) : ∃ x j, b[i]? = some x ∧ one1 b i x = some (s, j) ∧ b.drop j = t := by
  obtain ⟨f0, f1, f2, f3⟩ := s
  unfold okS at ho
  unfold encS at h
  have e4 : (128 : Nat) ^ 4 = 268435456 := rfl
  split at ho
  · rename_i h1
    simp only at h1
    subst h1
    simp only [Bool.and_eq_true, decide_eq_true_eq] at ho
    obtain ⟨⟨⟨⟨o1, o2⟩, o3⟩, o4⟩, o5⟩ := ho
    have : f3 = [] := List.eq_nil_of_length_eq_zero o5
    subst this
    simp only [if_pos, List.cons_append, List.append_assoc] at h
    obtain ⟨hx, hd⟩ := of_drop h
    have r1 := rv_dec 3 true (i + 1) f1.toNat (by omega) (.inl rfl) hd
    have hd2 : b.drop (i + 1 + (num f1.toNat).length) = num f2.toNat ++ t := by rw [← List.drop_drop, hd, List.drop_left]
    have r2 := rv_dec 3 true _ f2.toNat (by omega) (.inl rfl) hd2
    refine ⟨1, i + 1 + (num f1.toNat).length + (num f2.toNat).length, hx, ?_, ?_⟩
    · unfold one1
      rw [if_pos rfl, r1, Option.bind_some, r2, Option.bind_some]
      have : decide (f2.toNat ≠ 0) = true := decide_eq_true (by omega)
      simp only [this, Bool.and_self, if_pos, Option.some.injEq, Prod.mk.injEq, and_true]
      rw [Int.toNat_of_nonneg o3, Int.toNat_of_nonneg (by omega)]
    · rw [← List.drop_drop, hd2, List.drop_left]
  · rename_i h1
    simp only [Bool.and_eq_true, decide_eq_true_eq] at ho
    obtain ⟨⟨⟨o1, o2⟩, o3⟩, o4⟩ := ho
    simp only at o1 o2 o3 hl
    subst o1 o2 o3
    rw [if_neg (show ¬ ((2 : Int) = 1) by decide)] at h
    simp only [List.cons_append, List.append_assoc] at h
    obtain ⟨hx, hd⟩ := of_drop h
    have r1 := rv_dec 3 true (i + 1) f3.length (by omega) (.inl rfl) hd
    have hd2 : b.drop (i + 1 + (num f3.length).length) = f3 ++ t := by rw [← List.drop_drop, hd, List.drop_left]
    refine ⟨2, i + 1 + (num f3.length).length + f3.length, hx, ?_, ?_⟩
    · unfold one1
      rw [if_neg (by decide), if_pos rfl, r1, Option.bind_some]
      have e1 : decide (f3.length ≠ 0) = true := decide_eq_true (by omega)
      have e2 : f3.length ≤ b.length - (i + 1 + (num f3.length).length) := by
        have := congrArg List.length hd2
        rw [List.length_drop, List.length_append] at this
        omega
      simp only [e1, decide_eq_true e2, Bool.and_self, if_pos, Option.some.injEq, Prod.mk.injEq, and_true]
      rw [hd2, List.take_left]
    · rw [← List.drop_drop, hd2, List.drop_left]
theorem more_some {out o : List S43} {s : S43} (h : more out s = some o) : o = out ++ [s] ∧ o.length ≤ 10000 := by
  unfold more at h
  split at h
  · cases h
  · obtain rfl := Option.some.inj h
    exact ⟨rfl, by omega⟩
theorem strict_some {b : List Int} (hb : Bytes b) : ∀ (f i : Nat) (out r : List S43), out.length ≤ 10000 → steps (one1 b) b f i out = some r →
    steps (one2 b) b f i out = some r ∧ r.length ≤ 10000 ∧ ∃ ss, r = out ++ ss ∧ ss.all okS = true ∧ b.drop i = ss.flatMap encS
  | 0, i, out, r, _, h => by cases h
  | f + 1, i, out, r, hl, h => by
    unfold steps at h ⊢
    cases hx : b[i]? with
    | none =>
      rw [hx] at h
      obtain rfl := Option.some.inj h
      refine ⟨rfl, hl, [], by simp, rfl, ?_⟩
      rw [List.drop_eq_nil_of_le (List.getElem?_eq_none_iff.1 hx)]
      rfl
    | some x =>
      rw [hx] at h
      obtain ⟨⟨s, j⟩, e1, h⟩ := Option.bind_eq_some_iff.1 h
      obtain ⟨o, e2, h⟩ := Option.bind_eq_some_iff.1 h
      obtain ⟨rfl, hol⟩ := more_some e2
      obtain ⟨p1, p2, p3, p4⟩ := one1_ok hb hx e1
      obtain ⟨q1, q2, ss, rfl, q4, q5⟩ := strict_some hb f j _ r hol h
      refine ⟨?_, q2, s :: ss, by simp, by simp [p2, q4], ?_⟩
      · show (one2 b i x).bind _ = _
        rw [p1, Option.bind_some]
        simp only [e2, Option.bind_some]
        exact q1
      · rw [p3, q5]; rfl
theorem strict_of {b : List Int} : ∀ (ss : List S43) (f i : Nat) (out : List S43), (∀ s ∈ ss, s.f3.length ≤ 1048576) → ss.all okS = true → b.drop i = ss.flatMap encS → out.length + ss.length ≤ 10000 → ss.length < f → steps (one1 b) b f i out = some (out ++ ss)
  | _, 0, _, _, _, _, _, _, hf => by omega
  | [], f + 1, i, out, _, _, hd, _, _ => by
    have hl : b.length ≤ i := by
      have := congrArg List.length hd
      rw [List.length_drop] at this
      simp at this
      omega
    unfold steps
    rw [List.getElem?_eq_none hl]
    simp
  | s :: ss, f + 1, i, out, hs, ho, hd, hl, hf => by
    rw [List.all_cons, Bool.and_eq_true] at ho
    rw [List.flatMap_cons] at hd
    obtain ⟨x, j, hx, e1, hd'⟩ := one1_of (hs s List.mem_cons_self) ho.1 hd
    have hm : more out s = some (out ++ [s]) := by
      unfold more
      rw [if_neg (by simp at hl ⊢; omega)]
    have ih := strict_of ss f j (out ++ [s]) (fun s h => hs s (List.mem_cons_of_mem _ h)) ho.2 hd' (by simp at hl ⊢; omega) (by simp at hf; omega)
    unfold steps
    rw [hx]
    show (one1 b i x).bind _ = _
    rw [e1, Option.bind_some]
    simp only [hm, Option.bind_some]
    rw [ih, List.append_assoc, List.singleton_append]
theorem one2_len {b : List Int} {i j : Nat} {x : Int} {s : S43} (h : one2 b i x = some (s, j)) : s.f3.length ≤ b.length := by
  unfold one2 at h
  split at h
  · obtain ⟨p, _, h⟩ := Option.bind_eq_some_iff.1 h
    obtain ⟨q, _, h⟩ := Option.bind_eq_some_iff.1 h
    simp only [Option.some.injEq, Prod.mk.injEq] at h
    obtain ⟨rfl, _⟩ := h
    exact Nat.zero_le _
  · obtain ⟨p, _, h⟩ := Option.bind_eq_some_iff.1 h
    split at h
    · simp only [Option.some.injEq, Prod.mk.injEq] at h
      obtain ⟨rfl, _⟩ := h
      simp only [List.length_take, List.length_drop]
      omega
    · cases h
theorem loose_some {b : List Int} : ∀ (f i : Nat) (out r : List S43), out.length ≤ 10000 → steps (one2 b) b f i out = some r →
    r.length ≤ 10000 ∧ ∃ ss, r = out ++ ss ∧ ∀ s ∈ ss, s.f3.length ≤ b.length
  | 0, i, out, r, _, h => by cases h
  | f + 1, i, out, r, hl, h => by
    unfold steps at h
    cases hx : b[i]? with
    | none =>
      rw [hx] at h
      obtain rfl := Option.some.inj h
      exact ⟨hl, [], by simp, by simp⟩
    | some x =>
      rw [hx] at h
      obtain ⟨⟨s, j⟩, e1, h⟩ := Option.bind_eq_some_iff.1 h
      obtain ⟨o, e2, h⟩ := Option.bind_eq_some_iff.1 h
      obtain ⟨rfl, hol⟩ := more_some e2
      obtain ⟨q1, ss, rfl, q2⟩ := loose_some f j _ r hol h
      refine ⟨q1, s :: ss, by simp, fun y hy => ?_⟩
      rcases List.mem_cons.1 hy with rfl | hy
      · exact one2_len e1
      · exact q2 y hy
theorem flat_len : ∀ (ss : List S43), ss.length ≤ (ss.flatMap encS).length
  | [] => Nat.le_refl _
  | s :: ss => by
    have := flat_len ss
    rw [List.flatMap_cons, List.length_append, List.length_cons]
    have : 1 ≤ (encS s).length := by unfold encS; simp
    omega
theorem loose_strict {b : List Int} (hb : Bytes b) (hl : b.length ≤ 1048576) : looseF b = strictF b := by
  unfold looseF strictF
  by_cases hh : b.take 4 = hdr
  · rw [if_pos hh, if_pos hh]
    have tell : ∀ ss : List S43, ss.length ≤ 10000 → ss.all okS = true → b.drop 4 = ss.flatMap encS → dbytes ss = b := by
      intro ss h1 h2 h3
      unfold dbytes
      rw [decide_eq_true h1, h2, if_pos (show (true && true) = true from rfl), ← h3, ← hh, List.take_append_drop]
    cases hs : steps (one1 b) b (b.length + 1) 4 [] with
    | some r =>
      obtain ⟨h1, h2, ss, h3, h4, h5⟩ := strict_some hb _ _ _ _ (Nat.zero_le _) hs
      rw [List.nil_append] at h3
      subst h3
      rw [h1]
      simp only [if_pos (tell r h2 h4 h5)]
      rfl
    | none =>
      cases ht : steps (one2 b) b (b.length + 1) 4 [] with
      | none => rfl
      | some r =>
        obtain ⟨h2, ss, h3, h4⟩ := loose_some _ _ _ _ (Nat.zero_le _) ht
        rw [List.nil_append] at h3
        subst h3
        by_cases he : dbytes r = b
        · exfalso
          unfold dbytes at he
          split at he
          · rename_i hc
            rw [Bool.and_eq_true] at hc
            have hd : b.drop 4 = r.flatMap encS := by rw [← he]; rfl
            have := strict_of r (b.length + 1) 4 [] (fun s h => Nat.le_trans (h4 s h) hl) hc.2 hd (by simpa using h2) (by
              have h6 := flat_len r
              rw [← hd, List.length_drop] at h6
              omega)
            rw [hs] at this
            cases this
          · rw [← he] at hh
            cases hh
        · simp only [if_neg he]
          rfl
  · rw [if_neg hh, if_neg hh]
end Go.Proofs.Ythofgkmfllccnaa.G
namespace Go.Proofs.Ythofgkmfllccnaa.G
open Go.RowKit Go.Proofs.YthofgkmfllccnaaW.PrintWords Go.Proofs.YthofgkmfllccnaaW.PrintLast Go.Proofs.YthofgkmfllccnaaW.PrintMore
set_option linter.unusedVariables false
set_option linter.unusedSimpArgs false
def Var (w : World) (g t : Nat) (v : Value) : Prop := w.heap[g]? = some (.cells #[v] t (0, 0))
theorem Var.cell {w : World} {g t : Nat} {v : Value} (h : Var w g t v) : w.cell? ⟨g, 0, none⟩ = some v := by
  rw [cell_of_row w g 0 #[v] t (0, 0) h]; rfl
theorem Var.frozen {w : World} {g t : Nat} {v : Value} (h : Var w g t v) : w.frozen? ⟨g, 0, none⟩ = false := by
  unfold Var at h
  simp [World.frozen?, h]
theorem Var.lt {w : World} {g t : Nat} {v : Value} (h : Var w g t v) : g < w.heap.size := (Array.getElem?_eq_some_iff.1 h).1
theorem Var.ne {w : World} {g g' t t' : Nat} {v v' : Value} (h : Var w g t v) (h' : Var w g' t' v') (ht : t ≠ t') : g ≠ g' := by
  rintro rfl
  unfold Var at h h'
  rw [h] at h'
  injection h' with h'
  injection h' with _ h2
  exact ht h2
theorem Var.set {w : World} {g t : Nat} {v u : Value} (h : Var w g t v) : Var (w.setCell ⟨g, 0, none⟩ u) g t u := by
  unfold Var at h ⊢
  simp [World.setCell, Array.getElem?_modify, h]
theorem Var.other {ok : Nat → Prop} {w w' : World} {g t : Nat} {v : Value} (h : Var w g t v) (hm : Marks ok w w') (hn : ¬ ok g) : Var w' g t v := (hm.other g h.lt hn).trans h
theorem Var.drewN {w : World} {g t : Nat} {v : Value} (h : Var w g t v) (n : Nat) : Var (w.drewN n) g t v := h
theorem Var.new (w : World) (t : Nat) (v : Value) : Var (w.alloc (.cells #[v] t)) w.heap.size t v := blk_new w _
theorem Var.below {w w' : World} {g t : Nat} {v : Value} (h : Var w g t v) (hb : Below w.heap.size w w') : Var w' g t v := (hb.block g h.lt).trans h
theorem Var.alloc {w : World} {g t : Nat} {v : Value} (h : Var w g t v) (o : Obj) : Var (w.alloc o) g t v := h.below (below_alloc (Below.refl _ _) o)
theorem Var.grown {w w' : World} {g t : Nat} {v : Value} (h : Var w g t v) {row : Option Nat} (hg : w.grownBy w' row) (hr : some g ≠ row) : Var w' g t v := (hg.block g h.lt hr).trans h
theorem Marks.drewN {ok : Nat → Prop} {w w' : World} (h : Marks ok w w') (n : Nat) : Marks ok w (w'.drewN n) := h.trans (Marks.of_below (pw_below_drewN (Below.refl _ _) n))
def Stands (b : List Int) (i t n i' : Nat) : Prop := rv b 4 true i = (rv b (4 - t) (decide (t = 0)) i').map (fun p => (n + 128 ^ t * p.1, p.2.1, p.2.2))
theorem Stands.start (b : List Int) (i : Nat) : Stands b i 0 0 i := by
  unfold Stands
  have e : (fun p : Nat × Nat × Bool => (0 + 128 ^ 0 * p.1, p.2.1, p.2.2)) = id := by
    funext p
    rw [Nat.pow_zero, Nat.one_mul, Nat.zero_add]
    rfl
  rw [e, Option.map_id]
  rfl
theorem or_sum {t m y : Nat} (ht : t < 4) (hm : m < 128 ^ t) (hy : y < 128) : bits .or .i64 (m : Int) (wrap64 ((y : Int) * 2 ^ (7 * t))) = ((m + 128 ^ t * y : Nat) : Int) := by
  have key : ∀ k : Nat, k ≤ 21 → m < 2 ^ k → bits .or .i64 (m : Int) (((2 ^ k * y : Nat)) : Int) = ((m + 2 ^ k * y : Nat) : Int) := by
    intro k hk hmk
    have h40 : 2 ^ k * y < 2 ^ 40 := by
      have h1 : 2 ^ k ≤ 2 ^ 21 := Nat.pow_le_pow_right (by decide) hk
      have : 2 ^ k * y ≤ 2 ^ 21 * 128 := Nat.mul_le_mul h1 (by omega)
      omega
    have hm40 : m < 2 ^ 40 := Nat.lt_of_lt_of_le hmk (Nat.pow_le_pow_right (by decide) (by omega))
    rw [(bits_nat .i64 40 (by decide) (fun n h0 h1 => by rw [IntKind.wrap_i64]; omega) m (2 ^ k * y) hm40 h40).2, Nat.or_comm, ← Nat.two_pow_add_eq_or_of_lt hmk]
    congr 1
    omega
  have hw : ∀ k : Nat, k ≤ 21 → wrap64 ((y : Int) * 2 ^ k) = (((2 ^ k * y : Nat)) : Int) := by
    intro k hk
    have h1 : 2 ^ k ≤ 2 ^ 21 := Nat.pow_le_pow_right (by decide) hk
    have h2 : 2 ^ k * y ≤ 2 ^ 21 * 128 := Nat.mul_le_mul h1 (by omega)
    have e : (y : Int) * 2 ^ k = ((2 ^ k * y : Nat) : Int) := by rw [Int.mul_comm]; simp
    rw [e]
    unfold wrap64
    omega
  have e : (128 : Nat) ^ t = 2 ^ (7 * t) := by rw [Nat.pow_mul]
  rw [e] at hm ⊢
  rw [hw (7 * t) (by omega)]
  exact key (7 * t) (by omega) hm
theorem byte_at {w : World} {A : Option Addr} {n i : Nat} {b : List Int} (h : Kd.C (Kd.int .u8) w A n b) (hi : i < n) : ∃ ad x, A = some ad ∧ b[i]? = some x ∧ w.cell? (ad.add i) = some (.int .u8 x) := by
  obtain ⟨ad, e, hc⟩ := Kd.at_int h (i : Int) (by omega) (by omega)
  have hl : i < b.length := by rw [h.1]; exact hi
  refine ⟨ad, b[i], e, List.getElem?_eq_getElem hl, ?_⟩
  rw [Int.toNat_natCast] at hc
  rw [hc]
  unfold rd
  rw [Int.toNat_natCast, List.getD_eq_getElem?_getD, List.getElem?_eq_getElem hl]
  rfl
theorem mask127 {x : Int} (h0 : 0 ≤ x) (h1 : x ≤ 255) : bits .and .u8 x 127 = x % 128 := bits_mask .u8 8 (by decide) wraps_u8 7 (by decide) x h0 (by omega)
theorem Stands.last {b : List Int} {i t n i' : Nat} {x : Int} (h : Stands b i t n i') (ht : t < 4) (hx : b[i']? = some x) (hl : x < 128) : rv b 4 true i = some (n + 128 ^ t * x.toNat, i' + 1, decide (t = 0) || decide (x ≠ 0)) := by
  unfold Stands at h
  obtain ⟨f, hf⟩ : ∃ f, 4 - t = f + 1 := ⟨3 - t, by omega⟩
  rw [h, hf, rv, hx]
  simp only [if_pos hl, Option.map_some]
theorem Stands.next {b : List Int} {i t n i' : Nat} {x : Int} (h : Stands b i t n i') (ht : t < 4) (hx : b[i']? = some x) (hl : ¬ x < 128) : Stands b i (t + 1) (n + 128 ^ t * (x.toNat - 128)) (i' + 1) := by
  unfold Stands at h ⊢
  obtain ⟨f, hf, hf2⟩ : ∃ f, 4 - t = f + 1 ∧ 4 - (t + 1) = f := ⟨3 - t, by omega, by omega⟩
  rw [h, hf, hf2, rv, hx]
  simp only [if_neg hl, Option.map_map]
  have : decide (t + 1 = 0) = false := rfl
  rw [this]
  refine congrArg (fun g => Option.map g (rv b f false (i' + 1))) (funext fun p => ?_)
  simp only [Function.comp, Prod.mk.injEq, and_true]
  rw [Nat.pow_succ, Nat.mul_add, ← Nat.mul_assoc, ← Nat.add_assoc]
theorem Stands.none_ {b : List Int} {i t n i' : Nat} (h : Stands b i t n i') (hx : b[i']? = none) : rv b 4 true i = none := by
  unfold Stands at h
  rw [h]
  cases e : 4 - t with
  | zero => rfl
  | succ m => rw [rv, hx]; rfl
theorem Stands.end_ {b : List Int} {i n i' : Nat} (h : Stands b i 4 n i') : rv b 4 true i = none := h
def numAns (b : List Int) (i : Nat) : Value := match rv b 4 true i with | none => .tuple #[.int .i64 0, .bool false] | some p => .tuple #[.int .i64 (p.1 : Int), .bool p.2.2]
def numAt (b : List Int) (i j : Nat) : Prop := match rv b 4 true i with | none => True | some p => j = p.2.1
set_option maxHeartbeats 4000000 in
set_option maxRecDepth 100000 in
theorem num_c {b : List Int} {A : Option Addr} {c gi gb i : Nat} {w0 w : World} (hB : Below w0.heap.size w0 w) (hC : Kd.C (Kd.int .u8) w0 A b.length b) (hc : b.length ≤ c) (hb : Bytes b) (hgi : w0.heap.size ≤ gi) (hi : Var w gi 3 (.int .i64 i)) (hv : Var w gb 22 (.slice A b.length c)) (hil : i ≤ b.length) (hl : b.length ≤ 1048576) :
    Calls Try.prog 26 #[.pointer (some ⟨gi, 0, none⟩), .pointer (some ⟨gb, 0, none⟩)] w fun e w' => e = .returned (numAns b i) ∧ Marks (· = gi) w w' ∧ ∃ j, i ≤ j ∧ j ≤ b.length ∧ numAt b i j ∧ Var w' gi 3 (.int .i64 j) := by
  obtain ⟨n, hn⟩ : ∃ n, n = b.length := ⟨_, rfl⟩
  rw [← hn] at hil hl hc hC hv
  have hne : gb ≠ gi := hv.ne hi (by decide)
  have HC := Aside0.mk hC
  have HB := Aside0.mk hB
  have HI := Aside0.mk hi
  have HV := Aside0.mk hv
  have HN := Aside0.mk hn
  have HBY := Aside0.mk hb
  clear hC hB hi hv hn hb
  go_enter Try.func26, Try.ntmps26
  go_wp2
  go_loopw [4, 5] (fun v4 v5 wr => ∃ (t m i' : Nat), v4 = .int .i64 m ∧ v5 = .int .i64 ((7 * t : Nat) : Int) ∧ t ≤ 4 ∧ i ≤ i' ∧ i' ≤ n ∧ Aside0 (m < 128 ^ t) ∧ Aside0 (Stands b i t m i') ∧ Aside0 (Marks (· = gi) w wr) ∧ Aside0 (Var wr gi 3 (.int .i64 i'))) (fun _ v5 _ => (28 - intOf v5).toNat)
  case atStart => exact ⟨0, 0, i, rfl, rfl, by omega, Nat.le_refl _, hil, ⟨by decide⟩, ⟨Stands.start b i⟩, ⟨Marks.refl _ _⟩, HI⟩
  case round =>
    clear HI
    obtain ⟨t, m, i', rfl, rfl, ht, hii, hin, HM, HS, HK, HI⟩ := hrel
    have x0 := HI.out.cell
    have x1 := (HV.out.other HK.out hne).cell
    have HW := Aside0.mk (HK.out.to_below HB.out HB.out.size (fun k hk => by rw [hk]; exact hgi))
    by_cases hlt : i' < n
    · by_cases ht4 : t < 4
      · obtain ⟨ad, x, hA, hx, hcx⟩ := byte_at HC.out hlt
        subst hA
        have hxb := HBY.out x (List.mem_of_getElem? hx)
        replace hcx := (HW.out.cell (World.block_lt_of_cell? w0 _ hcx)).trans hcx
        have HX := Aside0.mk hx
        clear hx
        have hd1 : decide ((i' : Int) < (n : Int)) = true := decide_eq_true (by omega)
        have hd2 : decide (((7 * t : Nat) : Int) < 28) = true := decide_eq_true (by omega)
        have h7 : 7 * (t : Int) < 28 := by omega
        have f0 := HI.out.frozen
        have HST : Aside0 (Marks (· = gi) wr (wr.setCell ⟨gi, 0, none⟩ (.int .i64 ((i' : Int) + 1)))) := ⟨Marks.set HI.out (cell_blk HI.out HI.out.cell) (Like.int _ _ _) rfl⟩
        have HI1 : Aside0 (Var (wr.setCell ⟨gi, 0, none⟩ (.int .i64 ((i' : Int) + 1))) gi 3 (.int .i64 ((i' + 1 : Nat) : Int))) := ⟨by
          have := HI.out.set (u := .int .i64 ((i' : Int) + 1))
          simpa using this⟩
        obtain ⟨y, rfl⟩ : ∃ y : Nat, x = y := ⟨x.toNat, by omega⟩
        have HOR := Aside0.mk (or_sum (y := y % 128) ht4 HM.out (by omega))
        have hm : bits .and .u8 (y : Int) 127 = (y : Int) % 128 := mask127 hxb.1 hxb.2
        by_cases h128 : (y : Int) < 128
        · have hl := HS.out.last ht4 HX.out h128
          have hym : y % 128 = y := by omega
          have HANS : Aside0 (numAns b i = .tuple #[.int .i64 ((m + 128 ^ t * (y % 128) : Nat) : Int), .bool (decide (t = 0) || decide ((y : Int) ≠ 0))]) := ⟨by unfold numAns; rw [hl, hym]; rfl⟩
          have HAT : Aside0 (numAt b i (i' + 1)) := ⟨by unfold numAt; rw [hl]⟩
          clear hl hym
          by_cases h0 : y = 0
          · subst h0
            have hm0 : bits .and .u8 0 127 = 0 := by decide +kernel
            clear hm
            go_wp2_with fail
            go_ret2
            refine ⟨?_, HK.out.trans HST.out, i' + 1, by omega, by rw [← HN.out]; omega, HAT.out, HI1.out⟩
            have e1 : bits .or .i64 (m : Int) 0 = ((m + 128 ^ t * (0 % 128) : Nat) : Int) := by
              have := HOR.out
              simpa [wrap64] using this
            have e2 : (7 * (t : Int) == 0) = (decide (t = 0) || decide (((0 : Nat) : Int) ≠ 0)) := by
              rw [Bool.eq_iff_iff]; simp; omega
            rw [HANS.out, ← e1, ← e2]
            rfl
          · have hx0 : ((y : Int) == 0) = false := beq_eq_false_iff_ne.2 (by omega)
            have hx1 : ((y : Int) != 0) = true := bne_iff_ne.2 (by omega)
            have hd3 : decide ((y : Int) = 0) = false := decide_eq_false (by omega)
            have hn0 : ¬ (y : Int) = 0 := by omega
            go_wp2_with fail
            go_ret2
            refine ⟨?_, HK.out.trans HST.out, i' + 1, by omega, by rw [← HN.out]; omega, HAT.out, HI1.out⟩
            have e1 : bits .or .i64 (m : Int) (wrap64 ((y : Int) % 128 * 2 ^ (7 * t))) = ((m + 128 ^ t * (y % 128) : Nat) : Int) := HOR.out
            have e2 : (decide (t = 0) || decide ((y : Int) ≠ 0)) = true := by rw [decide_eq_true hn0]; simp
            rw [HANS.out, ← e1, e2]
            rfl
        · have hym : ((y : Int).toNat - 128) = y % 128 := by omega
          have HNX : Aside0 (Stands b i (t + 1) (m + 128 ^ t * (y % 128)) (i' + 1)) := ⟨by rw [← hym]; exact HS.out.next ht4 HX.out h128⟩
          have HLT : Aside0 (m + 128 ^ t * (y % 128) < 128 ^ (t + 1)) := ⟨by
            have h1 := HM.out
            have h2 : 128 ^ t * (y % 128) ≤ 128 ^ t * 127 := Nat.mul_le_mul_left _ (by omega)
            rw [Nat.pow_succ]
            omega⟩
          clear hym
          go_wp2_with fail
          go_roundw
          case rel => exact ⟨t + 1, m + 128 ^ t * (y % 128), i' + 1, by rw [← HOR.out]; rfl, by go_num, by omega, by omega, by omega, ⟨HLT.out⟩, ⟨HNX.out⟩, ⟨HK.out.trans HST.out⟩, HI1⟩
          case measure => simp [intOf]; omega
      · obtain rfl : t = 4 := by omega
        have hd1 : decide ((i' : Int) < (n : Int)) = true := decide_eq_true (by omega)
        go_wp2_with fail
        go_ret2
        refine ⟨?_, HK.out, i', by omega, by rw [← HN.out]; omega, ?_, HI.out⟩
        · unfold numAns; rw [HS.out.end_]; rfl
        · unfold numAt; rw [HS.out.end_]; trivial
    · obtain rfl : i' = n := by omega
      have hbn : b[i']? = none := List.getElem?_eq_none (by rw [HN.out]; exact Nat.le_refl _)
      have HBN := Aside0.mk hbn
      clear hbn
      go_wp2_with fail
      go_ret2
      refine ⟨?_, HK.out, i', by omega, by rw [← HN.out]; omega, ?_, HI.out⟩
      · unfold numAns; rw [HS.out.none_ HBN.out]; rfl
      · unfold numAt; rw [HS.out.none_ HBN.out]; trivial
def numV (b : List Int) (i : Nat) : Nat := match rv b 4 true i with | none => 0 | some p => p.1
def numB (b : List Int) (i : Nat) : Bool := match rv b 4 true i with | none => false | some p => p.2.2
theorem numAns_eq (b : List Int) (i : Nat) : numAns b i = .tuple #[.int .i64 (numV b i : Int), .bool (numB b i)] := by
  unfold numAns numV numB
  cases rv b 4 true i <;> rfl
theorem numB_true {b : List Int} {i j : Nat} (h : numB b i = true) (hj : numAt b i j) : rv b 4 true i = some (numV b i, j, true) := by
  unfold numB at h
  unfold numAt at hj
  unfold numV
  cases e : rv b 4 true i with
  | none => rw [e] at h; cases h
  | some p =>
    rw [e] at h hj
    obtain ⟨v, j', c⟩ := p
    simp only at h hj
    subst h hj
    rfl
theorem numB_false {b : List Int} {i : Nat} (h : numB b i = false) {p : Nat × Nat × Bool} (e : rv b 4 true i = some p) : p.2.2 = false := by
  unfold numB at h
  rw [e] at h
  exact h
theorem numV_lt {b : List Int} (hb : Bytes b) (i : Nat) : numV b i < 268435456 := by
  unfold numV
  cases e : rv b 4 true i with
  | none => simp
  | some p =>
    obtain ⟨v, j', c⟩ := p
    have := (rv_enc hb _ _ _ _ _ _ e).2.2.1
    have e4 : (128 : Nat) ^ 4 = 268435456 := rfl
    simp only
    omega
end Go.Proofs.Ythofgkmfllccnaa.G
namespace Go.Proofs.Ythofgkmfllccnaa.G
open Go.RowKit Go.Proofs.YthofgkmfllccnaaW.PrintWords Go.Proofs.YthofgkmfllccnaaW.PrintLast Go.Proofs.YthofgkmfllccnaaW.PrintMore
set_option linter.unusedVariables false
set_option linter.unusedSimpArgs false
def LitRow (w : World) (base : Nat) (v : Value) (xs : List Int) : Prop :=
  0 < xs.length ∧ xs.length ≤ 9223372036854775807 ∧ ∃ g, v = .slice (some ⟨g, 0, none⟩) xs.length xs.length ∧ base ≤ g ∧ w.heap[g]? = some (.cells (nums .u8 xs).toArray 5 (xs.length, xs.length + 1))
def RF (w : World) (base : Nat) (v : Value) (xs : List Int) : Prop := Kd.R (Kd.int .u8) 5 w base (fun _ => True) v xs ∨ LitRow w base v xs
section
variable {w w1 W : World} {base : Nat} {v : Value} {xs : List Int}
theorem RF_below (h : RF w base v xs) (hb : Below w.heap.size w w1) : RF w1 base v xs := by
  rcases h with h | ⟨h0, h1, g, h2, h3, h4⟩
  · exact .inl (Kd.R_below h hb)
  · exact .inr ⟨h0, h1, g, h2, h3, (hb.block g (Array.getElem?_eq_some_iff.1 h4).1).trans h4⟩
theorem RF_set {g' j : Nat} {cells : Array Value} (h : RF w base v xs) (hb : w.heap[g']? = some (.cells cells 43 (0, 0))) (u : Value) : RF (w.setCell ⟨g', j, none⟩ u) base v xs := by
  rcases h with h | ⟨h0, h1, g, h2, h3, h4⟩
  · exact .inl (Kd.R_set h hb (by decide) j u)
  · refine .inr ⟨h0, h1, g, h2, h3, (Below.heap_setCell w ⟨g', j, none⟩ u g (fun e => ?_)).trans h4⟩
    subst e
    rw [h4] at hb
    injection hb with hb
    injection hb with _ e2
    exact absurd e2 (by decide)
theorem blk_set43 {g' j : Nat} {cells : Array Value} (hb : w.heap[g']? = some (.cells cells 43 (0, 0))) (u : Value) : ∃ cells', (w.setCell ⟨g', j, none⟩ u).heap[g']? = some (.cells cells' 43 (0, 0)) :=
  ⟨cells.setIfInBounds j u, by simp [World.setCell, Array.getElem?_modify, hb]⟩
theorem RF_far4 {g' : Nat} {cells : Array Value} (h : RF w base v xs) (hb : w.heap[g']? = some (.cells cells 43 (0, 0))) (a b c d : Value) :
    RF ((((w.setCell ⟨g', 0, none⟩ a).setCell ⟨g', 1, none⟩ b).setCell ⟨g', 2, none⟩ c).setCell ⟨g', 3, none⟩ d) base v xs := by
  obtain ⟨c1, h1⟩ := blk_set43 (j := 0) hb a
  obtain ⟨c2, h2⟩ := blk_set43 (j := 1) h1 b
  obtain ⟨c3, h3⟩ := blk_set43 (j := 2) h2 c
  exact RF_set (RF_set (RF_set (RF_set h hb a) h1 b) h2 c) h3 d
theorem RF_ne {g' : Nat} {cells : Array Value} (h : RF w base v xs) (hb : w.heap[g']? = some (.cells cells 43 (0, 0))) : some g' ≠ v.ownBlock := by
  rcases h with h | ⟨h0, h1, g, rfl, h3, h4⟩
  · exact Kd.R_ne h hb (by decide)
  · intro e
    obtain rfl : g' = g := by simpa [Value.ownBlock] using e
    rw [h4] at hb
    injection hb with hb
    injection hb with _ e2
    exact absurd e2 (by decide)
theorem LitRow.cells (h : LitRow w base v xs) : ∃ g, v = .slice (some ⟨g, 0, none⟩) xs.length xs.length ∧ base ≤ g ∧ g < w.heap.size ∧ ∀ j u, (nums .u8 xs)[j]? = some u → w.cell? ⟨g, j, none⟩ = some u := by
  obtain ⟨h0, h1, g, h2, h3, h4⟩ := h
  refine ⟨g, h2, h3, (Array.getElem?_eq_some_iff.1 h4).1, fun j u hu => ?_⟩
  rw [cell_of_row w g j _ 5 _ h4]
  simpa using hu
theorem RF_reads (h : RF w base v xs) : ∃ A c, v = .slice A xs.length c ∧ xs.length ≤ c ∧ Kd.C (Kd.int .u8) w A xs.length xs := by
  rcases h with h | h
  · exact Kd.R_reads h
  · obtain ⟨g, e, _, _, hc⟩ := h.cells
    obtain ⟨h0, h1, _⟩ := h
    refine ⟨_, _, e, Nat.le_refl _, rfl, h1, fun _ => ⟨⟨g, 0, none⟩, rfl, fun j p hp => ⟨[.int .u8 p], rfl, rfl, fun i u hu => ?_⟩⟩⟩
    have hi : i = 0 := by
      have := (List.getElem?_eq_some_iff.1 hu).1
      simp at this
      exact this
    subst hi
    obtain rfl : Value.int .u8 p = u := by simpa using hu
    rw [add_plain]
    have e1 : j * (Kd.int .u8).sz + 0 = j := by show j * 1 + 0 = j; omega
    rw [e1]
    refine hc j _ ?_
    unfold nums
    rw [List.getElem?_map, hp]
    rfl
end
section
variable {P : Program} {ops : Array Oper} {rest : List Oper} {o : Oper} {a : Act} {Q : Exit → Act → World → Prop}
theorem RF_append {w0 W : World} (base : Nat) (hgd : o.guard = none) (s x : Operand) (t : TypeId)
    (ho : o.op = .call { callee := .builtin .append, args := #[s, x], argTypes := #[t, t] })
    (ht : P.underlying t = some (.slice 5)) (hinfo : (P.info? 5).map (fun i => (i.zero, i.size, i.bytes)) = some (some (.int .u8 0), 1, 1))
    (v : Value) (xs : List Int) (p : Int) (hs : a.eval s = v) (hx : a.eval x = .slice (some ⟨W.heap.size, 0, none⟩) 1 1)
    (HO : RF W base v xs) (HB : Below base w0 W) (hbase : base ≤ W.heap.size) (hl : (xs.length + 1) * 1 ≤ 140737488355328)
    (h : ∀ v1 w1, Kd.R (Kd.int .u8) 5 w1 base (fun _ => True) v1 (xs ++ [p]) → Below base w0 w1 → W.grownBy w1 v.ownBlock → (v1.ownBlock = v.ownBlock ∨ ∃ b, v1.ownBlock = some b ∧ W.heap.size ≤ b) → wpList P ops Q rest (a.put o.dst v1) w1) :
    wpList P ops Q (o :: rest) a (W.alloc (.cells #[.int .u8 p] 5)) := by
  rcases HO with HO | HO
  · exact Kd.R_append (Kd.int .u8) base hgd s x t 5 (.int .u8 0) 1 ho ht hinfo rfl (by decide) (by decide) v xs p [.int .u8 p] (fun _ => True) (fun _ => False) hs hx rfl (fun _ hk => hk.elim) (fun _ _ => trivial) HO HB hbase hl h
  · obtain ⟨g, hv, hg, hlt, hc⟩ := HO.cells
    have hpos := HO.1
    obtain ⟨i, hi, hii⟩ := Option.map_eq_some_iff.1 hinfo
    simp only [Prod.mk.injEq] at hii
    obtain ⟨hz, hsz, hby⟩ := hii
    have hnl : (nums .u8 xs).length = xs.length * 1 := by rw [nums_length, Nat.mul_one]
    refine wpList_append_arg (W.alloc (.cells #[.int .u8 p] 5)) hgd s x t ho 5 i (.int .u8 0) 1 1 ht hi hz hsz hby rfl (by decide) g 0 xs.length xs.length (nums .u8 xs) (by rw [hs, hv]) hnl
      (fun j u hu => by rw [Nat.zero_add]; exact (World.cell?_alloc_lt W _ ⟨g, j, none⟩ hlt).trans (hc j u hu))
      ⟨W.heap.size, 0, none⟩ 1 1 [.int .u8 p] hx rfl (fun j u hu => ?_) (by intro u hu; rw [List.mem_singleton.1 hu]; rfl) (fun hh => by omega) (by unfold maxLen; omega) (by omega) (fun hh => by omega) (fun _ v1 w1 hown hgr => ?_)
    · have hj : j = 0 := by
        have := (List.getElem?_eq_some_iff.1 hu).1
        simp at this
        exact this
      subst hj
      obtain rfl : Value.int .u8 p = u := by simpa using hu
      rw [add_plain, cell_of_row _ W.heap.size 0 #[.int .u8 p] 5 (0, 0) (blk_new W _)]
      rfl
    · have hsize : (W.alloc (.cells #[.int .u8 p] 5)).heap.size = W.heap.size + 1 := by simp
      have hb1 : Below W.heap.size W w1 := by
        refine ⟨hgr.os, hgr.tape, hgr.output, by have := hgr.size; omega, fun k hk => ?_⟩
        exact (hgr.block k (by omega) (by simp)).trans (Below.heap_alloc W _ k hk)
      have hR : Kd.R (Kd.int .u8) 5 w1 (W.alloc (.cells #[.int .u8 p] 5)).heap.size (fun _ => True) v1 (xs ++ [p]) := by
        refine ⟨fun _ _ => trivial, nums .u8 (xs ++ [p]), ?_, ?_⟩
        · have e : (xs ++ [p]).length = xs.length + 1 := by simp
          rw [nums_append, e]
          exact hown
        · exact Kd.reps_scalar (enc := Value.int .u8) (xs ++ [p])
      refine h v1 w1 (Kd.R_lower hR (by rw [hsize]; omega)) (below_then HB hbase hb1) ?_ ?_
      · exact ⟨hb1.os, hb1.tape, hb1.output, hb1.size, fun k hk _ => hb1.block k hk⟩
      · obtain ⟨g', cap', hv', hg', _⟩ := hown.form (by omega)
        exact .inr ⟨g', by rw [hv']; rfl, by omega⟩
end
end Go.Proofs.Ythofgkmfllccnaa.G
namespace Go.Proofs.Ythofgkmfllccnaa.G
open Go.RowKit Go.Proofs.YthofgkmfllccnaaW.PrintWords Go.Proofs.YthofgkmfllccnaaW.PrintLast Go.Proofs.YthofgkmfllccnaaW.PrintMore
attribute [local go_sem] max2_int min2_int max_two min_two max_three min_three max_four min_four
set_option linter.unusedVariables false
set_option linter.unusedSimpArgs false
def spec_l10Num.l0 : Nat → List Int → Int → Option (List Int)
  | 0, _, _ => none
  | k + 1, x0, x1 => if x1 ≥ 128 then (if x0.length < 140737488355328 then (spec_l10Num.l0 k (x0 ++ [(wrap64 ((Int.tmod x1 128) + 128)) % 256]) (wrap64 (Int.tdiv x1 128))) else (none)) else (if x0.length < 140737488355328 then (some (x0 ++ [(x1) % 256])) else (none))
def spec_l10Num.f (k : Nat) (l0 : List Int) (a1 : Int) : Option (List Int) := spec_l10Num.l0 k l0 a1
set_option maxHeartbeats 8000000 in
set_option maxRecDepth 100000 in
theorem spec_l10Num.calls (k : Nat) (P0_ : Nat → Prop) (u9000_ : Value) (l0 : List Int) (a1 : Int) (r : List Int) (w0 w : World) (hB : Below w0.heap.size w0 w) (ho0 : Kd.R (Kd.int .u8) 5 w w0.heap.size P0_ u9000_ l0) (h : spec_l10Num.f k l0 a1 = some r) :
    Calls Try.prog 37 #[u9000_, .int .i64 a1] w fun e w' => ∃ v0_ : Value, e = .returned (v0_) ∧ Kd.R (Kd.int .u8) 5 w' w0.heap.size (fun k_ => (P0_ k_ ∨ w.heap.size ≤ k_)) v0_ r ∧ Below w0.heap.size w0 w' ∧ Kept w w' (fun k_ => P0_ k_) := by
  have HO0 := Aside0.mk (show Kd.R (Kd.int .u8) 5 w w0.heap.size (fun k_ => (P0_ k_ ∨ w.heap.size ≤ k_)) u9000_ l0 from Kd.R_mono ho0 (fun k_ hk => (.inl hk)))
  have HK := Aside0.mk (Kept.refl w (fun k_ => P0_ k_))
  have HW0 := Aside0.mk hB.size
  have HB := Aside0.mk hB
  clear hB
  have H : (spec_l10Num.l0 k l0 a1) = some r := h
  clear h
  have H' := Aside0.mk H
  clear H
  go_enter Try.func37, Try.ntmps37
  go_wp2
  go_loopg [0, 1] k (fun kq v0 v1 w' => ∃ (x0_1 : List Int) (x1_1 : Int), v1 = .int .i64 x1_1 ∧ Aside0 (spec_l10Num.l0 kq x0_1 x1_1 = some r) ∧ Aside0 (kq ≤ k) ∧ Aside0 (Kd.R (Kd.int .u8) 5 w' w0.heap.size (fun k_ => (P0_ k_ ∨ w.heap.size ≤ k_)) v0 x0_1) ∧ Aside0 (Kept w w' (fun k_ => P0_ k_)) ∧ Aside0 (Below w0.heap.size w0 w'))
  case atStart => exact ⟨(l0), (a1), (by first | rfl | (simp; done) | (simp [*]; done)), H', ⟨Nat.le_refl _⟩, ⟨by (with_reducible repeat (first | apply Kd.R_alloc | apply Kd.R_drewN | apply Kd.R_drew)); exact HO0.out⟩, ⟨by repeat (first | (with_reducible first | exact HK.out | apply Kept.alloc | apply Kept.drewN | apply Kept.drew) | exact HK.out)⟩, ⟨by repeat (first | (with_reducible first | exact HB.out | apply below_alloc | apply pw_below_drewN | apply below_drew1) | exact HB.out)⟩⟩
  case round =>
    clear H'
    try clear p2
    obtain ⟨x0_1, x1_1, rfl, HA, HK1, HO_0, HK, HB⟩ := hrel
    cases gk with
    | zero => exact absurd HA.out (by simp [spec_l10Num.l0])
    | succ k1 =>
      have H := HA.out
      clear HA
      simp only [spec_l10Num.l0] at H
      by_cases c3 : x1_1 ≥ 128
      · rw [if_pos c3] at H
        have c3b0 : decide (128 ≤ x1_1) = true := decide_eq_true c3
        clear c3
        by_cases c4 : x0_1.length < 140737488355328
        · rw [if_pos c4] at H
          have LMc4 := Aside0.mk c4
          clear c4
          obtain ⟨y103, hy103⟩ : ∃ y_ : List Int, y_ = (x0_1 ++ [(wrap64 ((Int.tmod x1_1 128) + 128)) % 256]) := ⟨_, rfl⟩
          replace H : (spec_l10Num.l0 k1 y103 (wrap64 (Int.tdiv x1_1 128))) = some r := by first | (rw [hy103]; with_reducible exact H) | (have H2_ := (Option.bind_some _ _).symm.trans H; rw [hy103]; with_reducible exact H2_) | (have H2_ := (Option.bind_some _ _).symm.trans H; with_reducible exact H2_) | with_reducible exact H | (rw [hy103]; exact H) | exact H
          have Ny103 := Aside0.mk hy103
          clear hy103
          have H' := Aside0.mk H
          clear H
          go_wp2_with (first | ((with_reducible refine gate_builtin (b := .append) (xs := #[.tmp 7, .tmp 12]) rfl ?_); at_builtin; refine Kd.R_append (Kd.int .u8) (w0 := w0) w0.heap.size rfl (.tmp 7) (.tmp 12) 22 5 (.int .u8 0) 1 rfl Try.underlying22 info5 rfl (by decide) (by omega) u0 x0_1 ((wrap64 ((Int.tmod x1_1 128) + 128)) % 256) [.int .u8 ((wrap64 ((Int.tmod x1_1 128) + 128)) % 256)] (fun k_ => (P0_ k_ ∨ w.heap.size ≤ k_)) (fun _ => False) rfl rfl ?aP (fun _ hk => hk.elim) ?aF ?aO ?aB ?aS ?aL ?_; (case aP => exact rfl); (case aB => exact (by repeat (first | (with_reducible first | exact HB.out | apply below_alloc | apply pw_below_drewN | apply below_drew1) | exact HB.out))); (case aF => exact (fun k_ hk => (.inr (Nat.le_trans (by first | exact HK.out.1 | exact (show Kept w _ (fun k_ => P0_ k_) from by repeat (first | (with_reducible first | exact HK.out | apply Kept.alloc | apply Kept.drewN | apply Kept.drew) | exact HK.out)).1) hk)))); (case aO => exact (by (with_reducible repeat (first | apply Kd.R_alloc | apply Kd.R_drewN | apply Kd.R_drew)); exact HO_0.out)); (case aS => exact (below_size (by repeat (first | (with_reducible first | exact HB.out | apply below_alloc | apply pw_below_drewN | apply below_drew1) | exact HB.out)))); (case aL => have := LMc4.out; omega); intro v104 w5 ho hb hg hat; rw [← Ny103.out] at ho; have n0_ := Aside0.mk (hb); have n1_ := Aside0.mk (Kept.of_grown (S := (fun k_ => P0_ k_)) hg (by repeat (first | (with_reducible first | exact HK.out | apply Kept.alloc | apply Kept.drewN | apply Kept.drew) | exact HK.out)) (fun k_ e_ => (HO_0.out.1 k_ e_))); have n2_ := Aside0.mk (ho); clear HB; clear HK; clear HO_0; have HB := n0_; have HK := n1_; have HO105 := n2_; clear n0_ n1_ n2_; clear ho hb hg hat))
          go_roundg k1
          case measure => have := HK1.out; omega
          case rel => exact ⟨(y103), (wrap64 (Int.tdiv x1_1 128)), (by first | rfl | (simp; done) | (simp [*]; done)), H', ⟨by have := HK1.out; omega⟩, ⟨by (with_reducible repeat (first | apply Kd.R_alloc | apply Kd.R_drewN | apply Kd.R_drew)); exact HO105.out⟩, ⟨by repeat (first | (with_reducible first | exact HK.out | apply Kept.alloc | apply Kept.drewN | apply Kept.drew) | exact HK.out)⟩, ⟨by repeat (first | (with_reducible first | exact HB.out | apply below_alloc | apply pw_below_drewN | apply below_drew1) | exact HB.out)⟩⟩
        · rw [if_neg c4] at H
          exact absurd H (by simp)
      · rw [if_neg c3] at H
        have c3b0 : decide (128 ≤ x1_1) = false := decide_eq_false c3
        clear c3
        by_cases c6 : x0_1.length < 140737488355328
        · rw [if_pos c6] at H
          have LMc6 := Aside0.mk c6
          clear c6
          obtain ⟨y106, hy106⟩ : ∃ y_ : List Int, y_ = (x0_1 ++ [(x1_1) % 256]) := ⟨_, rfl⟩
          replace H : (some y106) = some r := by first | (rw [hy106]; with_reducible exact H) | (have H2_ := (Option.bind_some _ _).symm.trans H; rw [hy106]; with_reducible exact H2_) | (have H2_ := (Option.bind_some _ _).symm.trans H; with_reducible exact H2_) | with_reducible exact H | (rw [hy106]; exact H) | exact H
          have Ny106 := Aside0.mk hy106
          clear hy106
          obtain rfl := Option.some.inj H
          go_wp2_with (first | ((with_reducible refine gate_builtin (b := .append) (xs := #[.tmp 16, .tmp 19]) rfl ?_); at_builtin; refine Kd.R_append (Kd.int .u8) (w0 := w0) w0.heap.size rfl (.tmp 16) (.tmp 19) 22 5 (.int .u8 0) 1 rfl Try.underlying22 info5 rfl (by decide) (by omega) u0 x0_1 ((x1_1) % 256) [.int .u8 ((x1_1) % 256)] (fun k_ => (P0_ k_ ∨ w.heap.size ≤ k_)) (fun _ => False) rfl rfl ?aP (fun _ hk => hk.elim) ?aF ?aO ?aB ?aS ?aL ?_; (case aP => exact rfl); (case aB => exact (by repeat (first | (with_reducible first | exact HB.out | apply below_alloc | apply pw_below_drewN | apply below_drew1) | exact HB.out))); (case aF => exact (fun k_ hk => (.inr (Nat.le_trans (by first | exact HK.out.1 | exact (show Kept w _ (fun k_ => P0_ k_) from by repeat (first | (with_reducible first | exact HK.out | apply Kept.alloc | apply Kept.drewN | apply Kept.drew) | exact HK.out)).1) hk)))); (case aO => exact (by (with_reducible repeat (first | apply Kd.R_alloc | apply Kd.R_drewN | apply Kd.R_drew)); exact HO_0.out)); (case aS => exact (below_size (by repeat (first | (with_reducible first | exact HB.out | apply below_alloc | apply pw_below_drewN | apply below_drew1) | exact HB.out)))); (case aL => have := LMc6.out; omega); intro v107 w7 ho hb hg hat; rw [← Ny106.out] at ho; have n0_ := Aside0.mk (hb); have n1_ := Aside0.mk (Kept.of_grown (S := (fun k_ => P0_ k_)) hg (by repeat (first | (with_reducible first | exact HK.out | apply Kept.alloc | apply Kept.drewN | apply Kept.drew) | exact HK.out)) (fun k_ e_ => (HO_0.out.1 k_ e_))); have n2_ := Aside0.mk (ho); clear HB; clear HK; clear HO_0; have HB := n0_; have HK := n1_; have HO108 := n2_; clear n0_ n1_ n2_; clear ho hb hg hat))
          go_ret
          exact ⟨_, by first | rfl | (simp [errW_none, errW_some] <;> rfl) | (simp [*, errW_none, errW_some] <;> rfl), by (with_reducible repeat (first | apply Kd.R_alloc | apply Kd.R_drewN | apply Kd.R_drew)); exact HO108.out, by repeat (first | (with_reducible first | exact HB.out | apply below_alloc | apply pw_below_drewN | apply below_drew1) | exact HB.out), by repeat (first | (with_reducible first | exact HK.out | apply Kept.alloc | apply Kept.drewN | apply Kept.drew) | exact HK.out)⟩
        · rw [if_neg c6] at H
          exact absurd H (by simp)
end Go.Proofs.Ythofgkmfllccnaa.G
namespace Go.Proofs.Ythofgkmfllccnaa.G
open Go.RowKit Go.Proofs.YthofgkmfllccnaaW.PrintWords Go.Proofs.YthofgkmfllccnaaW.PrintLast Go.Proofs.YthofgkmfllccnaaW.PrintMore
attribute [local go_sem] max2_int min2_int max_two min_two max_three min_three max_four min_four
set_option linter.unusedVariables false
set_option linter.unusedSimpArgs false
def spec_l14StepOk.f (a0_0 : Int) (a0_1 : Int) (a0_2 : Int) (l0_3 : List Int) : Option (Bool) := if a0_0 = 1 then (if a0_2 ≥ 1 then (if a0_2 ≤ 268435455 then (if a0_1 ≥ 0 then (if a0_1 ≤ 268435455 then (some ((l0_3.length : Int) == 0)) else (some false)) else (some false)) else (some false)) else (some false)) else (if a0_0 = 2 then (if a0_1 = 0 then (if a0_2 = 0 then (some (decide ((l0_3.length : Int) > 0))) else (some false)) else (some false)) else (some false))
set_option maxHeartbeats 8000000 in
set_option maxRecDepth 100000 in
theorem spec_l14StepOk.calls (a0_0 : Int) (a0_1 : Int) (a0_2 : Int) (A0_3 : Option Addr) (c0_3 : Nat) (l0_3 : List Int) (r : Bool) (w : World) (hr0_3 : Kd.C (Kd.int .u8) w A0_3 l0_3.length l0_3) (hc0_3 : l0_3.length ≤ c0_3) (h : spec_l14StepOk.f a0_0 a0_1 a0_2 l0_3 = some r) :
    Calls Try.prog 36 #[.agg #[.int .i64 a0_0, .int .i64 a0_1, .int .i64 a0_2, .slice A0_3 l0_3.length c0_3]] w fun e w' => e = .returned (.bool r) ∧ Below w.heap.size w w' := by
  have hu43 := Try.underlying43
  have HR0_3 := Aside0.mk hr0_3
  have HC0_3 := Aside0.mk hc0_3
  clear hr0_3 hc0_3
  have HB := Aside0.mk (Below.refl w.heap.size w)
  have H : (if a0_0 = 1 then (if a0_2 ≥ 1 then (if a0_2 ≤ 268435455 then (if a0_1 ≥ 0 then (if a0_1 ≤ 268435455 then (some ((l0_3.length : Int) == 0)) else (some false)) else (some false)) else (some false)) else (some false)) else (if a0_0 = 2 then (if a0_1 = 0 then (if a0_2 = 0 then (some (decide ((l0_3.length : Int) > 0))) else (some false)) else (some false)) else (some false))) = some r := h
  clear h
  by_cases c2 : a0_0 = 1
  · rw [if_pos c2] at H
    have c2b0 : (a0_0 == 1) = true := beq_iff_eq.mpr c2
    have c2b1 : (a0_0 != 1) = false := bne_eq_false_iff_eq.mpr c2
    clear c2
    by_cases c3 : a0_2 ≥ 1
    · rw [if_pos c3] at H
      have c3b0 : decide (1 ≤ a0_2) = true := decide_eq_true c3
      clear c3
      by_cases c4 : a0_2 ≤ 268435455
      · rw [if_pos c4] at H
        have c4b0 : decide (a0_2 ≤ 268435455) = true := decide_eq_true c4
        clear c4
        by_cases c5 : a0_1 ≥ 0
        · rw [if_pos c5] at H
          have c5b0 : decide (0 ≤ a0_1) = true := decide_eq_true c5
          clear c5
          by_cases c6 : a0_1 ≤ 268435455
          · rw [if_pos c6] at H
            have c6b0 : decide (a0_1 ≤ 268435455) = true := decide_eq_true c6
            clear c6
            obtain rfl := Option.some.inj H
            go_enter Try.func36, Try.ntmps36
            go_wp2_with (first | ((with_reducible refine gate_dst (N := 1) rfl ?_); (try (refine gate_guard (by rfl) ?_; dsimp only)); refine box_event ?hg (N := 1) ?hd (cs := #[.int .i64 a0_0, .int .i64 a0_1, .int .i64 a0_2, .slice A0_3 l0_3.length c0_3]) (t := 43) ?hr ?_; (case hd => rfl); (case hg => rfl); (case hr => first | (go_simp; done) | (go_simp; rfl)); intro gb102 hg w7 hbox hb; have n0_ := Aside0.mk (below_step (by repeat (first | (with_reducible first | exact HB.out | apply below_alloc | apply pw_below_drewN | apply below_drew1) | exact HB.out)) hb); have n1_ := Aside0.mk (hbox); have n2_ := Aside0.mk ((by rw [hg]; exact (below_size (by repeat (first | (with_reducible first | exact HB.out | apply below_alloc | apply pw_below_drewN | apply below_drew1) | exact HB.out))) : w.heap.size ≤ gb102)); have n3_ := Aside0.mk ((by rw [hg]; exact (below_size (by repeat (first | (with_reducible first | exact HB.out | apply below_alloc | apply pw_below_drewN | apply below_drew1) | exact HB.out))) : w.heap.size ≤ gb102)); clear HB; have HB := n0_; have BK102 := n1_; have GW102 := n2_; have GE102 := n3_; clear n0_ n1_ n2_ n3_; clear hb hbox hg; have hcz8_0 : w7.cell? ⟨gb102, 0, none⟩ = some (.int .i64 a0_0) := (blk_cell BK102.out 0).trans rfl; have hcz8_1 : w7.cell? ⟨gb102, 1, none⟩ = some (.int .i64 a0_1) := (blk_cell BK102.out 1).trans rfl; have hcz8_2 : w7.cell? ⟨gb102, 2, none⟩ = some (.int .i64 a0_2) := (blk_cell BK102.out 2).trans rfl; have hcz8_3 : w7.cell? ⟨gb102, 3, none⟩ = some (.slice A0_3 l0_3.length c0_3) := (blk_cell BK102.out 3).trans rfl; have hfz8_0 := blk_frozen BK102.out 0; have hfz8_1 := blk_frozen BK102.out 1; have hfz8_2 := blk_frozen BK102.out 2; have hfz8_3 := blk_frozen BK102.out 3))
            go_ret
            exact ⟨by first | rfl | (simp [errW_none, errW_some] <;> rfl) | (simp [*, errW_none, errW_some] <;> rfl), by repeat (first | (with_reducible first | exact HB.out | apply below_alloc | apply pw_below_drewN | apply below_drew1 | refine below_set ?_ GE102.out) | exact HB.out)⟩
          · rw [if_neg c6] at H
            have c6b0 : decide (a0_1 ≤ 268435455) = false := decide_eq_false c6
            clear c6
            obtain rfl := Option.some.inj H
            go_enter Try.func36, Try.ntmps36
            go_wp2_with (first | ((with_reducible refine gate_dst (N := 1) rfl ?_); (try (refine gate_guard (by rfl) ?_; dsimp only)); refine box_event ?hg (N := 1) ?hd (cs := #[.int .i64 a0_0, .int .i64 a0_1, .int .i64 a0_2, .slice A0_3 l0_3.length c0_3]) (t := 43) ?hr ?_; (case hd => rfl); (case hg => rfl); (case hr => first | (go_simp; done) | (go_simp; rfl)); intro gb102 hg w9 hbox hb; have n0_ := Aside0.mk (below_step (by repeat (first | (with_reducible first | exact HB.out | apply below_alloc | apply pw_below_drewN | apply below_drew1) | exact HB.out)) hb); have n1_ := Aside0.mk (hbox); have n2_ := Aside0.mk ((by rw [hg]; exact (below_size (by repeat (first | (with_reducible first | exact HB.out | apply below_alloc | apply pw_below_drewN | apply below_drew1) | exact HB.out))) : w.heap.size ≤ gb102)); have n3_ := Aside0.mk ((by rw [hg]; exact (below_size (by repeat (first | (with_reducible first | exact HB.out | apply below_alloc | apply pw_below_drewN | apply below_drew1) | exact HB.out))) : w.heap.size ≤ gb102)); clear HB; have HB := n0_; have BK102 := n1_; have GW102 := n2_; have GE102 := n3_; clear n0_ n1_ n2_ n3_; clear hb hbox hg; have hcz10_0 : w9.cell? ⟨gb102, 0, none⟩ = some (.int .i64 a0_0) := (blk_cell BK102.out 0).trans rfl; have hcz10_1 : w9.cell? ⟨gb102, 1, none⟩ = some (.int .i64 a0_1) := (blk_cell BK102.out 1).trans rfl; have hcz10_2 : w9.cell? ⟨gb102, 2, none⟩ = some (.int .i64 a0_2) := (blk_cell BK102.out 2).trans rfl; have hcz10_3 : w9.cell? ⟨gb102, 3, none⟩ = some (.slice A0_3 l0_3.length c0_3) := (blk_cell BK102.out 3).trans rfl; have hfz10_0 := blk_frozen BK102.out 0; have hfz10_1 := blk_frozen BK102.out 1; have hfz10_2 := blk_frozen BK102.out 2; have hfz10_3 := blk_frozen BK102.out 3))
            go_ret
            exact ⟨by first | rfl | (simp [errW_none, errW_some] <;> rfl) | (simp [*, errW_none, errW_some] <;> rfl), by repeat (first | (with_reducible first | exact HB.out | apply below_alloc | apply pw_below_drewN | apply below_drew1 | refine below_set ?_ GE102.out) | exact HB.out)⟩
        · rw [if_neg c5] at H
          have c5b0 : decide (0 ≤ a0_1) = false := decide_eq_false c5
          clear c5
          obtain rfl := Option.some.inj H
          go_enter Try.func36, Try.ntmps36
          go_wp2_with (first | ((with_reducible refine gate_dst (N := 1) rfl ?_); (try (refine gate_guard (by rfl) ?_; dsimp only)); refine box_event ?hg (N := 1) ?hd (cs := #[.int .i64 a0_0, .int .i64 a0_1, .int .i64 a0_2, .slice A0_3 l0_3.length c0_3]) (t := 43) ?hr ?_; (case hd => rfl); (case hg => rfl); (case hr => first | (go_simp; done) | (go_simp; rfl)); intro gb102 hg w11 hbox hb; have n0_ := Aside0.mk (below_step (by repeat (first | (with_reducible first | exact HB.out | apply below_alloc | apply pw_below_drewN | apply below_drew1) | exact HB.out)) hb); have n1_ := Aside0.mk (hbox); have n2_ := Aside0.mk ((by rw [hg]; exact (below_size (by repeat (first | (with_reducible first | exact HB.out | apply below_alloc | apply pw_below_drewN | apply below_drew1) | exact HB.out))) : w.heap.size ≤ gb102)); have n3_ := Aside0.mk ((by rw [hg]; exact (below_size (by repeat (first | (with_reducible first | exact HB.out | apply below_alloc | apply pw_below_drewN | apply below_drew1) | exact HB.out))) : w.heap.size ≤ gb102)); clear HB; have HB := n0_; have BK102 := n1_; have GW102 := n2_; have GE102 := n3_; clear n0_ n1_ n2_ n3_; clear hb hbox hg; have hcz12_0 : w11.cell? ⟨gb102, 0, none⟩ = some (.int .i64 a0_0) := (blk_cell BK102.out 0).trans rfl; have hcz12_1 : w11.cell? ⟨gb102, 1, none⟩ = some (.int .i64 a0_1) := (blk_cell BK102.out 1).trans rfl; have hcz12_2 : w11.cell? ⟨gb102, 2, none⟩ = some (.int .i64 a0_2) := (blk_cell BK102.out 2).trans rfl; have hcz12_3 : w11.cell? ⟨gb102, 3, none⟩ = some (.slice A0_3 l0_3.length c0_3) := (blk_cell BK102.out 3).trans rfl; have hfz12_0 := blk_frozen BK102.out 0; have hfz12_1 := blk_frozen BK102.out 1; have hfz12_2 := blk_frozen BK102.out 2; have hfz12_3 := blk_frozen BK102.out 3))
          go_ret
          exact ⟨by first | rfl | (simp [errW_none, errW_some] <;> rfl) | (simp [*, errW_none, errW_some] <;> rfl), by repeat (first | (with_reducible first | exact HB.out | apply below_alloc | apply pw_below_drewN | apply below_drew1 | refine below_set ?_ GE102.out) | exact HB.out)⟩
      · rw [if_neg c4] at H
        have c4b0 : decide (a0_2 ≤ 268435455) = false := decide_eq_false c4
        clear c4
        obtain rfl := Option.some.inj H
        go_enter Try.func36, Try.ntmps36
        go_wp2_with (first | ((with_reducible refine gate_dst (N := 1) rfl ?_); (try (refine gate_guard (by rfl) ?_; dsimp only)); refine box_event ?hg (N := 1) ?hd (cs := #[.int .i64 a0_0, .int .i64 a0_1, .int .i64 a0_2, .slice A0_3 l0_3.length c0_3]) (t := 43) ?hr ?_; (case hd => rfl); (case hg => rfl); (case hr => first | (go_simp; done) | (go_simp; rfl)); intro gb102 hg w13 hbox hb; have n0_ := Aside0.mk (below_step (by repeat (first | (with_reducible first | exact HB.out | apply below_alloc | apply pw_below_drewN | apply below_drew1) | exact HB.out)) hb); have n1_ := Aside0.mk (hbox); have n2_ := Aside0.mk ((by rw [hg]; exact (below_size (by repeat (first | (with_reducible first | exact HB.out | apply below_alloc | apply pw_below_drewN | apply below_drew1) | exact HB.out))) : w.heap.size ≤ gb102)); have n3_ := Aside0.mk ((by rw [hg]; exact (below_size (by repeat (first | (with_reducible first | exact HB.out | apply below_alloc | apply pw_below_drewN | apply below_drew1) | exact HB.out))) : w.heap.size ≤ gb102)); clear HB; have HB := n0_; have BK102 := n1_; have GW102 := n2_; have GE102 := n3_; clear n0_ n1_ n2_ n3_; clear hb hbox hg; have hcz14_0 : w13.cell? ⟨gb102, 0, none⟩ = some (.int .i64 a0_0) := (blk_cell BK102.out 0).trans rfl; have hcz14_1 : w13.cell? ⟨gb102, 1, none⟩ = some (.int .i64 a0_1) := (blk_cell BK102.out 1).trans rfl; have hcz14_2 : w13.cell? ⟨gb102, 2, none⟩ = some (.int .i64 a0_2) := (blk_cell BK102.out 2).trans rfl; have hcz14_3 : w13.cell? ⟨gb102, 3, none⟩ = some (.slice A0_3 l0_3.length c0_3) := (blk_cell BK102.out 3).trans rfl; have hfz14_0 := blk_frozen BK102.out 0; have hfz14_1 := blk_frozen BK102.out 1; have hfz14_2 := blk_frozen BK102.out 2; have hfz14_3 := blk_frozen BK102.out 3))
        go_ret
        exact ⟨by first | rfl | (simp [errW_none, errW_some] <;> rfl) | (simp [*, errW_none, errW_some] <;> rfl), by repeat (first | (with_reducible first | exact HB.out | apply below_alloc | apply pw_below_drewN | apply below_drew1 | refine below_set ?_ GE102.out) | exact HB.out)⟩
    · rw [if_neg c3] at H
      have c3b0 : decide (1 ≤ a0_2) = false := decide_eq_false c3
      clear c3
      obtain rfl := Option.some.inj H
      go_enter Try.func36, Try.ntmps36
      go_wp2_with (first | ((with_reducible refine gate_dst (N := 1) rfl ?_); (try (refine gate_guard (by rfl) ?_; dsimp only)); refine box_event ?hg (N := 1) ?hd (cs := #[.int .i64 a0_0, .int .i64 a0_1, .int .i64 a0_2, .slice A0_3 l0_3.length c0_3]) (t := 43) ?hr ?_; (case hd => rfl); (case hg => rfl); (case hr => first | (go_simp; done) | (go_simp; rfl)); intro gb102 hg w15 hbox hb; have n0_ := Aside0.mk (below_step (by repeat (first | (with_reducible first | exact HB.out | apply below_alloc | apply pw_below_drewN | apply below_drew1) | exact HB.out)) hb); have n1_ := Aside0.mk (hbox); have n2_ := Aside0.mk ((by rw [hg]; exact (below_size (by repeat (first | (with_reducible first | exact HB.out | apply below_alloc | apply pw_below_drewN | apply below_drew1) | exact HB.out))) : w.heap.size ≤ gb102)); have n3_ := Aside0.mk ((by rw [hg]; exact (below_size (by repeat (first | (with_reducible first | exact HB.out | apply below_alloc | apply pw_below_drewN | apply below_drew1) | exact HB.out))) : w.heap.size ≤ gb102)); clear HB; have HB := n0_; have BK102 := n1_; have GW102 := n2_; have GE102 := n3_; clear n0_ n1_ n2_ n3_; clear hb hbox hg; have hcz16_0 : w15.cell? ⟨gb102, 0, none⟩ = some (.int .i64 a0_0) := (blk_cell BK102.out 0).trans rfl; have hcz16_1 : w15.cell? ⟨gb102, 1, none⟩ = some (.int .i64 a0_1) := (blk_cell BK102.out 1).trans rfl; have hcz16_2 : w15.cell? ⟨gb102, 2, none⟩ = some (.int .i64 a0_2) := (blk_cell BK102.out 2).trans rfl; have hcz16_3 : w15.cell? ⟨gb102, 3, none⟩ = some (.slice A0_3 l0_3.length c0_3) := (blk_cell BK102.out 3).trans rfl; have hfz16_0 := blk_frozen BK102.out 0; have hfz16_1 := blk_frozen BK102.out 1; have hfz16_2 := blk_frozen BK102.out 2; have hfz16_3 := blk_frozen BK102.out 3))
      go_ret
      exact ⟨by first | rfl | (simp [errW_none, errW_some] <;> rfl) | (simp [*, errW_none, errW_some] <;> rfl), by repeat (first | (with_reducible first | exact HB.out | apply below_alloc | apply pw_below_drewN | apply below_drew1 | refine below_set ?_ GE102.out) | exact HB.out)⟩
  · rw [if_neg c2] at H
    have c2b0 : (a0_0 == 1) = false := beq_eq_false_iff_ne.mpr c2
    have c2b1 : (a0_0 != 1) = true := bne_iff_ne.mpr c2
    by_cases c17 : a0_0 = 2
    · rw [if_pos c17] at H
      have c17b0 : (a0_0 == 2) = true := beq_iff_eq.mpr c17
      have c17b1 : (a0_0 != 2) = false := bne_eq_false_iff_eq.mpr c17
      clear c17
      by_cases c18 : a0_1 = 0
      · rw [if_pos c18] at H
        have c18b0 : (a0_1 == 0) = true := beq_iff_eq.mpr c18
        have c18b1 : (a0_1 != 0) = false := bne_eq_false_iff_eq.mpr c18
        clear c18
        by_cases c19 : a0_2 = 0
        · rw [if_pos c19] at H
          have c19b0 : (a0_2 == 0) = true := beq_iff_eq.mpr c19
          have c19b1 : (a0_2 != 0) = false := bne_eq_false_iff_eq.mpr c19
          clear c19
          obtain rfl := Option.some.inj H
          go_enter Try.func36, Try.ntmps36
          go_wp2_with (first | ((with_reducible refine gate_dst (N := 1) rfl ?_); (try (refine gate_guard (by rfl) ?_; dsimp only)); refine box_event ?hg (N := 1) ?hd (cs := #[.int .i64 a0_0, .int .i64 a0_1, .int .i64 a0_2, .slice A0_3 l0_3.length c0_3]) (t := 43) ?hr ?_; (case hd => rfl); (case hg => rfl); (case hr => first | (go_simp; done) | (go_simp; rfl)); intro gb102 hg w20 hbox hb; have n0_ := Aside0.mk (below_step (by repeat (first | (with_reducible first | exact HB.out | apply below_alloc | apply pw_below_drewN | apply below_drew1) | exact HB.out)) hb); have n1_ := Aside0.mk (hbox); have n2_ := Aside0.mk ((by rw [hg]; exact (below_size (by repeat (first | (with_reducible first | exact HB.out | apply below_alloc | apply pw_below_drewN | apply below_drew1) | exact HB.out))) : w.heap.size ≤ gb102)); have n3_ := Aside0.mk ((by rw [hg]; exact (below_size (by repeat (first | (with_reducible first | exact HB.out | apply below_alloc | apply pw_below_drewN | apply below_drew1) | exact HB.out))) : w.heap.size ≤ gb102)); clear HB; have HB := n0_; have BK102 := n1_; have GW102 := n2_; have GE102 := n3_; clear n0_ n1_ n2_ n3_; clear hb hbox hg; have hcz21_0 : w20.cell? ⟨gb102, 0, none⟩ = some (.int .i64 a0_0) := (blk_cell BK102.out 0).trans rfl; have hcz21_1 : w20.cell? ⟨gb102, 1, none⟩ = some (.int .i64 a0_1) := (blk_cell BK102.out 1).trans rfl; have hcz21_2 : w20.cell? ⟨gb102, 2, none⟩ = some (.int .i64 a0_2) := (blk_cell BK102.out 2).trans rfl; have hcz21_3 : w20.cell? ⟨gb102, 3, none⟩ = some (.slice A0_3 l0_3.length c0_3) := (blk_cell BK102.out 3).trans rfl; have hfz21_0 := blk_frozen BK102.out 0; have hfz21_1 := blk_frozen BK102.out 1; have hfz21_2 := blk_frozen BK102.out 2; have hfz21_3 := blk_frozen BK102.out 3))
          go_ret
          exact ⟨by first | rfl | (simp [errW_none, errW_some] <;> rfl) | (simp [*, errW_none, errW_some] <;> rfl), by repeat (first | (with_reducible first | exact HB.out | apply below_alloc | apply pw_below_drewN | apply below_drew1 | refine below_set ?_ GE102.out) | exact HB.out)⟩
        · rw [if_neg c19] at H
          have c19b0 : (a0_2 == 0) = false := beq_eq_false_iff_ne.mpr c19
          have c19b1 : (a0_2 != 0) = true := bne_iff_ne.mpr c19
          obtain rfl := Option.some.inj H
          go_enter Try.func36, Try.ntmps36
          go_wp2_with (first | ((with_reducible refine gate_dst (N := 1) rfl ?_); (try (refine gate_guard (by rfl) ?_; dsimp only)); refine box_event ?hg (N := 1) ?hd (cs := #[.int .i64 a0_0, .int .i64 a0_1, .int .i64 a0_2, .slice A0_3 l0_3.length c0_3]) (t := 43) ?hr ?_; (case hd => rfl); (case hg => rfl); (case hr => first | (go_simp; done) | (go_simp; rfl)); intro gb102 hg w22 hbox hb; have n0_ := Aside0.mk (below_step (by repeat (first | (with_reducible first | exact HB.out | apply below_alloc | apply pw_below_drewN | apply below_drew1) | exact HB.out)) hb); have n1_ := Aside0.mk (hbox); have n2_ := Aside0.mk ((by rw [hg]; exact (below_size (by repeat (first | (with_reducible first | exact HB.out | apply below_alloc | apply pw_below_drewN | apply below_drew1) | exact HB.out))) : w.heap.size ≤ gb102)); have n3_ := Aside0.mk ((by rw [hg]; exact (below_size (by repeat (first | (with_reducible first | exact HB.out | apply below_alloc | apply pw_below_drewN | apply below_drew1) | exact HB.out))) : w.heap.size ≤ gb102)); clear HB; have HB := n0_; have BK102 := n1_; have GW102 := n2_; have GE102 := n3_; clear n0_ n1_ n2_ n3_; clear hb hbox hg; have hcz23_0 : w22.cell? ⟨gb102, 0, none⟩ = some (.int .i64 a0_0) := (blk_cell BK102.out 0).trans rfl; have hcz23_1 : w22.cell? ⟨gb102, 1, none⟩ = some (.int .i64 a0_1) := (blk_cell BK102.out 1).trans rfl; have hcz23_2 : w22.cell? ⟨gb102, 2, none⟩ = some (.int .i64 a0_2) := (blk_cell BK102.out 2).trans rfl; have hcz23_3 : w22.cell? ⟨gb102, 3, none⟩ = some (.slice A0_3 l0_3.length c0_3) := (blk_cell BK102.out 3).trans rfl; have hfz23_0 := blk_frozen BK102.out 0; have hfz23_1 := blk_frozen BK102.out 1; have hfz23_2 := blk_frozen BK102.out 2; have hfz23_3 := blk_frozen BK102.out 3))
          go_ret
          exact ⟨by first | rfl | (simp [errW_none, errW_some] <;> rfl) | (simp [*, errW_none, errW_some] <;> rfl), by repeat (first | (with_reducible first | exact HB.out | apply below_alloc | apply pw_below_drewN | apply below_drew1 | refine below_set ?_ GE102.out) | exact HB.out)⟩
      · rw [if_neg c18] at H
        have c18b0 : (a0_1 == 0) = false := beq_eq_false_iff_ne.mpr c18
        have c18b1 : (a0_1 != 0) = true := bne_iff_ne.mpr c18
        obtain rfl := Option.some.inj H
        go_enter Try.func36, Try.ntmps36
        go_wp2_with (first | ((with_reducible refine gate_dst (N := 1) rfl ?_); (try (refine gate_guard (by rfl) ?_; dsimp only)); refine box_event ?hg (N := 1) ?hd (cs := #[.int .i64 a0_0, .int .i64 a0_1, .int .i64 a0_2, .slice A0_3 l0_3.length c0_3]) (t := 43) ?hr ?_; (case hd => rfl); (case hg => rfl); (case hr => first | (go_simp; done) | (go_simp; rfl)); intro gb102 hg w24 hbox hb; have n0_ := Aside0.mk (below_step (by repeat (first | (with_reducible first | exact HB.out | apply below_alloc | apply pw_below_drewN | apply below_drew1) | exact HB.out)) hb); have n1_ := Aside0.mk (hbox); have n2_ := Aside0.mk ((by rw [hg]; exact (below_size (by repeat (first | (with_reducible first | exact HB.out | apply below_alloc | apply pw_below_drewN | apply below_drew1) | exact HB.out))) : w.heap.size ≤ gb102)); have n3_ := Aside0.mk ((by rw [hg]; exact (below_size (by repeat (first | (with_reducible first | exact HB.out | apply below_alloc | apply pw_below_drewN | apply below_drew1) | exact HB.out))) : w.heap.size ≤ gb102)); clear HB; have HB := n0_; have BK102 := n1_; have GW102 := n2_; have GE102 := n3_; clear n0_ n1_ n2_ n3_; clear hb hbox hg; have hcz25_0 : w24.cell? ⟨gb102, 0, none⟩ = some (.int .i64 a0_0) := (blk_cell BK102.out 0).trans rfl; have hcz25_1 : w24.cell? ⟨gb102, 1, none⟩ = some (.int .i64 a0_1) := (blk_cell BK102.out 1).trans rfl; have hcz25_2 : w24.cell? ⟨gb102, 2, none⟩ = some (.int .i64 a0_2) := (blk_cell BK102.out 2).trans rfl; have hcz25_3 : w24.cell? ⟨gb102, 3, none⟩ = some (.slice A0_3 l0_3.length c0_3) := (blk_cell BK102.out 3).trans rfl; have hfz25_0 := blk_frozen BK102.out 0; have hfz25_1 := blk_frozen BK102.out 1; have hfz25_2 := blk_frozen BK102.out 2; have hfz25_3 := blk_frozen BK102.out 3))
        go_ret
        exact ⟨by first | rfl | (simp [errW_none, errW_some] <;> rfl) | (simp [*, errW_none, errW_some] <;> rfl), by repeat (first | (with_reducible first | exact HB.out | apply below_alloc | apply pw_below_drewN | apply below_drew1 | refine below_set ?_ GE102.out) | exact HB.out)⟩
    · rw [if_neg c17] at H
      have c17b0 : (a0_0 == 2) = false := beq_eq_false_iff_ne.mpr c17
      have c17b1 : (a0_0 != 2) = true := bne_iff_ne.mpr c17
      obtain rfl := Option.some.inj H
      go_enter Try.func36, Try.ntmps36
      go_wp2_with (first | ((with_reducible refine gate_dst (N := 1) rfl ?_); (try (refine gate_guard (by rfl) ?_; dsimp only)); refine box_event ?hg (N := 1) ?hd (cs := #[.int .i64 a0_0, .int .i64 a0_1, .int .i64 a0_2, .slice A0_3 l0_3.length c0_3]) (t := 43) ?hr ?_; (case hd => rfl); (case hg => rfl); (case hr => first | (go_simp; done) | (go_simp; rfl)); intro gb102 hg w26 hbox hb; have n0_ := Aside0.mk (below_step (by repeat (first | (with_reducible first | exact HB.out | apply below_alloc | apply pw_below_drewN | apply below_drew1) | exact HB.out)) hb); have n1_ := Aside0.mk (hbox); have n2_ := Aside0.mk ((by rw [hg]; exact (below_size (by repeat (first | (with_reducible first | exact HB.out | apply below_alloc | apply pw_below_drewN | apply below_drew1) | exact HB.out))) : w.heap.size ≤ gb102)); have n3_ := Aside0.mk ((by rw [hg]; exact (below_size (by repeat (first | (with_reducible first | exact HB.out | apply below_alloc | apply pw_below_drewN | apply below_drew1) | exact HB.out))) : w.heap.size ≤ gb102)); clear HB; have HB := n0_; have BK102 := n1_; have GW102 := n2_; have GE102 := n3_; clear n0_ n1_ n2_ n3_; clear hb hbox hg; have hcz27_0 : w26.cell? ⟨gb102, 0, none⟩ = some (.int .i64 a0_0) := (blk_cell BK102.out 0).trans rfl; have hcz27_1 : w26.cell? ⟨gb102, 1, none⟩ = some (.int .i64 a0_1) := (blk_cell BK102.out 1).trans rfl; have hcz27_2 : w26.cell? ⟨gb102, 2, none⟩ = some (.int .i64 a0_2) := (blk_cell BK102.out 2).trans rfl; have hcz27_3 : w26.cell? ⟨gb102, 3, none⟩ = some (.slice A0_3 l0_3.length c0_3) := (blk_cell BK102.out 3).trans rfl; have hfz27_0 := blk_frozen BK102.out 0; have hfz27_1 := blk_frozen BK102.out 1; have hfz27_2 := blk_frozen BK102.out 2; have hfz27_3 := blk_frozen BK102.out 3))
      go_ret
      exact ⟨by first | rfl | (simp [errW_none, errW_some] <;> rfl) | (simp [*, errW_none, errW_some] <;> rfl), by repeat (first | (with_reducible first | exact HB.out | apply below_alloc | apply pw_below_drewN | apply below_drew1 | refine below_set ?_ GE102.out) | exact HB.out)⟩
end Go.Proofs.Ythofgkmfllccnaa.G
namespace Go.Proofs.Ythofgkmfllccnaa.G
open Go.RowKit Go.Proofs.YthofgkmfllccnaaW.PrintWords Go.Proofs.YthofgkmfllccnaaW.PrintLast Go.Proofs.YthofgkmfllccnaaW.PrintMore
attribute [local go_sem] max2_int min2_int max_two min_two max_three min_three max_four min_four
set_option linter.unusedVariables false
set_option linter.unusedSimpArgs false
def spec_DeltaBytes.l0 : Nat → List (S43) → List Int → Int → Option (List Int)
  | 0, _, _, _ => none
  | k + 1, x0, x3, x4 => if x4 < (x0.length : Int) then (if 0 ≤ x4 then ((spec_l14StepOk.f ((rd_T43 x0 x4).f0) ((rd_T43 x0 x4).f1) ((rd_T43 x0 x4).f2) ((rd_T43 x0 x4).f3)).bind fun t117 => (if t117 = true then (if x3.length < 140737488355328 then ((some (x3 ++ [((rd_T43 x0 x4).f0) % 256] : List Int)).bind fun y121 => (if ((rd_T43 x0 x4).f0) = 1 then ((spec_l10Num.f k y121 ((rd_T43 x0 x4).f1)).bind fun t124 => ((spec_l10Num.f k t124 ((rd_T43 x0 x4).f2)).bind fun t127 => (spec_DeltaBytes.l0 k x0 t127 (wrap64 (x4 + 1))))) else ((spec_l10Num.f k y121 (((rd_T43 x0 x4).f3).length : Int)).bind fun t130 => (if t130.length + ((rd_T43 x0 x4).f3).length < 140737488355328 then (spec_DeltaBytes.l0 k x0 (t130 ++ ((rd_T43 x0 x4).f3)) (wrap64 (x4 + 1))) else (none))))) else (none)) else (some (([] : List Int))))) else (none)) else (some x3)
def spec_DeltaBytes.f (k : Nat) (l0 : List (S43)) : Option (List Int) := if (l0.length : Int) > 10000 then (some (([] : List Int))) else (spec_DeltaBytes.l0 k l0 (([76, 68, 84, 49] : List Int)) 0)
def spec_DeltaBytes.T12 : Bool × List (List Nat × List Nat) := (true, [([], []), ([], []), ([1], [1]), ([0, 2], [0, 2]), ([], []), ([4], [4]), ([3, 5, 3], [3, 5]), ([6, 6, 0, 1, 2, 3, 4, 5, 6], [0, 6])])
def spec_DeltaBytes.B12 : List Nat := [0, 0, 2, 7, 0, 16, 63, 127]
theorem spec_DeltaBytes.tab12 : rtab .any (opsOf Try.f24 12) = spec_DeltaBytes.T12 := by kernel_rfl
theorem spec_DeltaBytes.bits12 : waitsOk spec_DeltaBytes.T12.2 spec_DeltaBytes.B12 = true := by kernel_rfl
def spec_DeltaBytes.T13 : Bool × List (List Nat × List Nat) := (true, [([], []), ([], []), ([1], [1]), ([2], [2]), ([0, 3], [0, 3]), ([], []), ([5], [5]), ([4, 6, 4], [4, 6]), ([7, 7, 0, 1, 2, 3, 4, 5, 6, 7], [0, 7])])
def spec_DeltaBytes.B13 : List Nat := [0, 0, 2, 6, 15, 0, 32, 127, 255]
theorem spec_DeltaBytes.tab13 : rtab .any (opsOf Try.f24 13) = spec_DeltaBytes.T13 := by kernel_rfl
theorem spec_DeltaBytes.bits13 : waitsOk spec_DeltaBytes.T13.2 spec_DeltaBytes.B13 = true := by kernel_rfl
set_option maxHeartbeats 8000000 in
set_option maxRecDepth 100000 in
theorem spec_DeltaBytes.calls (k : Nat) (A0 : Option Addr) (c0 : Nat) (l0 : List (S43)) (r : List Int) (w : World) (hr0 : Kd.C k43 w A0 l0.length l0) (hc0 : l0.length ≤ c0) (h : spec_DeltaBytes.f k l0 = some r) :
    Calls Try.prog 24 #[.slice A0 l0.length c0] w fun e w' => ∃ v0_ : Value, e = .returned (v0_) ∧ RF w' w.heap.size v0_ r ∧ Below w.heap.size w w' := by
  have hu43 := Try.underlying43
  have HR0 := Aside0.mk hr0
  have HC0 := Aside0.mk hc0
  clear hr0 hc0
  have HB := Aside0.mk (Below.refl w.heap.size w)
  have H : (if (l0.length : Int) > 10000 then (some (([] : List Int))) else (spec_DeltaBytes.l0 k l0 (([76, 68, 84, 49] : List Int)) 0)) = some r := h
  clear h
  by_cases c2 : (l0.length : Int) > 10000
  · rw [if_pos c2] at H
    have c2b0 : decide (10000 < (l0.length : Int)) = true := decide_eq_true c2
    have c2b1 : decide (10000 < l0.length) = true := decide_eq_true (by omega)
    clear c2
    obtain ⟨y109, hy109⟩ : ∃ y_ : List Int, y_ = (([] : List Int)) := ⟨_, rfl⟩
    replace H : (some y109) = some r := by first | (rw [hy109]; with_reducible exact H) | (have H2_ := (Option.bind_some _ _).symm.trans H; rw [hy109]; with_reducible exact H2_) | (have H2_ := (Option.bind_some _ _).symm.trans H; with_reducible exact H2_) | with_reducible exact H | (rw [hy109]; exact H) | exact H
    have Ny109 := Aside0.mk hy109
    clear hy109
    obtain rfl := Option.some.inj H
    go_enter Try.func24, Try.ntmps24
    go_wp2_with (first | ((with_reducible refine gate_dst (N := 9) rfl ?_); refine Kd.R_lit (Kd.int .u8) _ 5 ?hg (N := 9) ?hd (xs := ([] : List Int)) (inner := []) (ok := fun _ => True) (okp := fun _ => True) ?hr ?hp (fun _ hk => hk) trivial (Below.refl _ _) (Nat.le_refl _) (by simp) ?_; (case hd => rfl); (case hg => rfl); (case hr => first | (go_simp; done) | (go_simp; rfl)); (case hp => exact (Reps.none _ _)); intro v110 w3 ho4 hb hg_ hnew_; clear hg_ hnew_; (first | rw [← Ny109.out] at ho4 | (simp only [Int.reduceToNat] at ho4; rw [← Ny109.out] at ho4)); have n0_ := Aside0.mk (Kd.R_lower ho4 (below_size (by repeat (first | (with_reducible first | exact HB.out | apply below_alloc | apply pw_below_drewN | apply below_drew1) | exact HB.out)))); have n1_ := Aside0.mk (below_step (by repeat (first | (with_reducible first | exact HB.out | apply below_alloc | apply pw_below_drewN | apply below_drew1) | exact HB.out)) hb); clear HB; have HO111 := n0_; have HB := n1_; clear n0_ n1_; clear hb ho4))
    go_ret
    exact ⟨_, by first | rfl | (simp [errW_none, errW_some] <;> rfl) | (simp [*, errW_none, errW_some] <;> rfl), .inl (HO111.out), by repeat (first | (with_reducible first | exact HB.out | apply below_alloc | apply pw_below_drewN | apply below_drew1) | exact HB.out)⟩
  · rw [if_neg c2] at H
    have c2b0 : decide (10000 < (l0.length : Int)) = false := decide_eq_false c2
    have c2b1 : decide (10000 < l0.length) = false := decide_eq_false (by omega)
    clear c2
    obtain ⟨y112, hy112⟩ : ∃ y_ : List Int, y_ = (([76, 68, 84, 49] : List Int)) := ⟨_, rfl⟩
    replace H : (spec_DeltaBytes.l0 k l0 y112 0) = some r := by first | (rw [hy112]; with_reducible exact H) | (have H2_ := (Option.bind_some _ _).symm.trans H; rw [hy112]; with_reducible exact H2_) | (have H2_ := (Option.bind_some _ _).symm.trans H; with_reducible exact H2_) | with_reducible exact H | (rw [hy112]; exact H) | exact H
    have Ny112 := Aside0.mk hy112
    clear hy112
    have H' := Aside0.mk H
    clear H
    go_enter Try.func24, Try.ntmps24
    have hkc := fun (W : World) (C : Array Value) (n c : Nat) => Lib.run_convert_bytes_const (P := Try.prog) W 22 5 C n c Try.underlying22 Try.underlying5
    go_wp2
    have hlit : RF (w.alloc (.cells #[.int .u8 76, .int .u8 68, .int .u8 84, .int .u8 49] 5 (4, 5))) w.heap.size (.slice (some ⟨w.heap.size, 0, none⟩) 4 4) y112 := by
      rw [Ny112.out]
      exact .inr ⟨by decide, by decide, w.heap.size, rfl, Nat.le_refl _, blk_new w _⟩
    have HO114 := Aside0.mk hlit
    replace HB := Aside0.mk (below_alloc (Below.refl w.heap.size w) (.cells #[.int .u8 76, .int .u8 68, .int .u8 84, .int .u8 49] 5 (4, 5)))
    clear hlit hkc
    go_loopg [3, 4] k (fun kq v3 v4 w' => ∃ (x3_1 : List Int) (x4_1 : Int), v4 = .int .i64 x4_1 ∧ Aside0 (spec_DeltaBytes.l0 kq l0 x3_1 x4_1 = some r) ∧ Aside0 (kq ≤ k) ∧ Aside0 (RF w' w.heap.size v3 x3_1) ∧ Aside0 (Below w.heap.size w w'))
    case atStart => exact ⟨(y112), (0), (by first | rfl | (simp; done) | (simp [*]; done)), H', ⟨Nat.le_refl _⟩, ⟨by (with_reducible repeat (first | apply Kd.R_alloc | apply Kd.R_drewN | apply Kd.R_drew)); exact HO114.out⟩, ⟨by repeat (first | (with_reducible first | exact HB.out | apply below_alloc | apply pw_below_drewN | apply below_drew1) | exact HB.out)⟩⟩
    case round =>
      clear H'
      try clear c2
      try clear c2b0
      try clear c2b1
      try clear p2
      obtain ⟨x3_1, x4_1, rfl, HA, HK1, HO_3, HB⟩ := hrel
      cases gk with
      | zero => exact absurd HA.out (by simp [spec_DeltaBytes.l0])
      | succ k1 =>
        have H := HA.out
        clear HA
        simp only [spec_DeltaBytes.l0] at H
        by_cases c7 : x4_1 < (l0.length : Int)
        · rw [if_pos c7] at H
          have c7b0 : decide (x4_1 < (l0.length : Int)) = true := decide_eq_true c7
          clear c7
          by_cases c8 : 0 ≤ x4_1
          · rw [if_pos c8] at H
            have c8b0 : decide (0 ≤ x4_1) = true := decide_eq_true c8
            clear c8
            replace H := Option.bind_eq_some_iff.mp H
            obtain ⟨t117, A90, H⟩ := H
            replace H : (if t117 = true then (if x3_1.length < 140737488355328 then ((some (x3_1 ++ [((rd_T43 l0 x4_1).f0) % 256] : List Int)).bind fun y121 => (if ((rd_T43 l0 x4_1).f0) = 1 then ((spec_l10Num.f k1 y121 ((rd_T43 l0 x4_1).f1)).bind fun t124 => ((spec_l10Num.f k1 t124 ((rd_T43 l0 x4_1).f2)).bind fun t127 => (spec_DeltaBytes.l0 k1 l0 t127 (wrap64 (x4_1 + 1))))) else ((spec_l10Num.f k1 y121 (((rd_T43 l0 x4_1).f3).length : Int)).bind fun t130 => (if t130.length + ((rd_T43 l0 x4_1).f3).length < 140737488355328 then (spec_DeltaBytes.l0 k1 l0 (t130 ++ ((rd_T43 l0 x4_1).f3)) (wrap64 (x4_1 + 1))) else (none))))) else (none)) else (some (([] : List Int)))) = some r := H
            have A9 := Aside0.mk A90
            clear A90
            by_cases c10 : t117 = true
            · subst c10
              have H1 : (if x3_1.length < 140737488355328 then ((some (x3_1 ++ [((rd_T43 l0 x4_1).f0) % 256] : List Int)).bind fun y121 => (if ((rd_T43 l0 x4_1).f0) = 1 then ((spec_l10Num.f k1 y121 ((rd_T43 l0 x4_1).f1)).bind fun t124 => ((spec_l10Num.f k1 t124 ((rd_T43 l0 x4_1).f2)).bind fun t127 => (spec_DeltaBytes.l0 k1 l0 t127 (wrap64 (x4_1 + 1))))) else ((spec_l10Num.f k1 y121 (((rd_T43 l0 x4_1).f3).length : Int)).bind fun t130 => (if t130.length + ((rd_T43 l0 x4_1).f3).length < 140737488355328 then (spec_DeltaBytes.l0 k1 l0 (t130 ++ ((rd_T43 l0 x4_1).f3)) (wrap64 (x4_1 + 1))) else (none))))) else (none)) = some r := by rw [if_pos rfl] at H; exact H
              clear H
              have H := H1
              clear H1
              by_cases c11 : x3_1.length < 140737488355328
              · rw [if_pos c11] at H
                have LMc11 := Aside0.mk c11
                clear c11
                obtain ⟨y121, hy121⟩ : ∃ y_ : List Int, y_ = (x3_1 ++ [((rd_T43 l0 x4_1).f0) % 256]) := ⟨_, rfl⟩
                replace H : (if ((rd_T43 l0 x4_1).f0) = 1 then ((spec_l10Num.f k1 y121 ((rd_T43 l0 x4_1).f1)).bind fun t124 => ((spec_l10Num.f k1 t124 ((rd_T43 l0 x4_1).f2)).bind fun t127 => (spec_DeltaBytes.l0 k1 l0 t127 (wrap64 (x4_1 + 1))))) else ((spec_l10Num.f k1 y121 (((rd_T43 l0 x4_1).f3).length : Int)).bind fun t130 => (if t130.length + ((rd_T43 l0 x4_1).f3).length < 140737488355328 then (spec_DeltaBytes.l0 k1 l0 (t130 ++ ((rd_T43 l0 x4_1).f3)) (wrap64 (x4_1 + 1))) else (none)))) = some r := by first | (rw [hy121]; with_reducible exact H) | (have H2_ := (Option.bind_some _ _).symm.trans H; rw [hy121]; with_reducible exact H2_) | (have H2_ := (Option.bind_some _ _).symm.trans H; with_reducible exact H2_) | with_reducible exact H | (rw [hy121]; exact H) | exact H
                have Ny121 := Aside0.mk hy121
                clear hy121
                by_cases c12 : ((rd_T43 l0 x4_1).f0) = 1
                · rw [if_pos c12] at H
                  have c12b0 : (((rd_T43 l0 x4_1).f0) == 1) = true := beq_iff_eq.mpr c12
                  have c12b1 : (((rd_T43 l0 x4_1).f0) != 1) = false := bne_eq_false_iff_eq.mpr c12
                  clear c12
                  replace H := Option.bind_eq_some_iff.mp H
                  obtain ⟨t124, A130, H⟩ := H
                  replace H : ((spec_l10Num.f k1 t124 ((rd_T43 l0 x4_1).f2)).bind fun t127 => (spec_DeltaBytes.l0 k1 l0 t127 (wrap64 (x4_1 + 1)))) = some r := H
                  have A13 := Aside0.mk A130
                  clear A130
                  replace H := Option.bind_eq_some_iff.mp H
                  obtain ⟨t127, A140, H⟩ := H
                  replace H : (spec_DeltaBytes.l0 k1 l0 t127 (wrap64 (x4_1 + 1))) = some r := H
                  have A14 := Aside0.mk A140
                  clear A140
                  have H' := Aside0.mk H
                  clear H
                  have p115 : 0 ≤ (x4_1 : Int) := of_decide_eq_true (by first | (with_reducible assumption) | assumption)
                  have q115 : x4_1 < (l0.length : Int) := of_decide_eq_true (by first | (with_reducible assumption) | assumption)
                  obtain ⟨ad115, A115_3, c115_3, e115, hx115_0, hx115_1, hx115_2, hx115_3, hl115_3, hi115_3⟩ := at_T43 HR0.out x4_1 p115 q115
                  cases e115
                  replace hx115_0 := (HB.out.cell (World.block_lt_of_cell? w _ hx115_0)).trans hx115_0
                  replace hx115_1 := (HB.out.cell (World.block_lt_of_cell? w _ hx115_1)).trans hx115_1
                  replace hx115_2 := (HB.out.cell (World.block_lt_of_cell? w _ hx115_2)).trans hx115_2
                  replace hx115_3 := (HB.out.cell (World.block_lt_of_cell? w _ hx115_3)).trans hx115_3
                  have HR115_3 := Aside0.mk hi115_3
                  have HC115_3 := Aside0.mk hl115_3
                  clear hi115_3 hl115_3
                  replace p115 := eq_true p115
                  replace q115 := eq_true q115
                  try go_wp2_with (first | ((with_reducible refine gate_dst (N := 5) rfl ?_); refine box_event ?hg (N := 5) ?hd (cs := #[.int .i64 0, .int .i64 0, .int .i64 0, .slice none 0 0]) (t := 43) ?hr ?_; (case hd => rfl); (case hg => rfl); (case hr => first | (go_simp; done) | (go_simp; rfl)); intro gb116 hg w15 hbox hb; have n0_ := Aside0.mk (RF_below HO_3.out hb); have n1_ := Aside0.mk (below_step (by repeat (first | (with_reducible first | exact HB.out | apply below_alloc | apply pw_below_drewN | apply below_drew1) | exact HB.out)) hb); have n2_ := Aside0.mk (hbox); have n3_ := Aside0.mk ((by rw [hg]; exact (below_size (by repeat (first | (with_reducible first | exact HB.out | apply below_alloc | apply pw_below_drewN | apply below_drew1) | exact HB.out))) : w.heap.size ≤ gb116)); have n4_ := Aside0.mk ((by rw [hg]; exact (below_size (by repeat (first | (with_reducible first | exact HB.out | apply below_alloc | apply pw_below_drewN | apply below_drew1) | exact HB.out))) : w.heap.size ≤ gb116)); clear HO_3; clear HB; have HO_3 := n0_; have HB := n1_; have BK116 := n2_; have GW116 := n3_; have GE116 := n4_; clear n0_ n1_ n2_ n3_ n4_; clear hb hbox hg; have hcz16_0 : w15.cell? ⟨gb116, 0, none⟩ = some (.int .i64 0) := (blk_cell BK116.out 0).trans rfl; have hcz16_1 : w15.cell? ⟨gb116, 1, none⟩ = some (.int .i64 0) := (blk_cell BK116.out 1).trans rfl; have hcz16_2 : w15.cell? ⟨gb116, 2, none⟩ = some (.int .i64 0) := (blk_cell BK116.out 2).trans rfl; have hcz16_3 : w15.cell? ⟨gb116, 3, none⟩ = some (.slice none 0 0) := (blk_cell BK116.out 3).trans rfl; have hfz16_0 := blk_frozen BK116.out 0; have hfz16_1 := blk_frozen BK116.out 1; have hfz16_2 := blk_frozen BK116.out 2; have hfz16_3 := blk_frozen BK116.out 3) | ((with_reducible refine gate_callee (f := 36) rfl ?_); refine goesL_ (some 23) rfl rfl Try.func36 (by kernel_rfl) rfl #[.agg #[.int .i64 ((rd_T43 l0 x4_1).f0), .int .i64 ((rd_T43 l0 x4_1).f1), .int .i64 ((rd_T43 l0 x4_1).f2), .slice A115_3 ((rd_T43 l0 x4_1).f3).length c115_3]] rfl (by (try simp only [List.map_toArray, List.map_cons, List.map_nil]); first | done | rfl | (simp only [List.length_drop, List.length_take]; rfl)) ?_; (with_reducible refine (spec_l14StepOk.calls ((rd_T43 l0 x4_1).f0) ((rd_T43 l0 x4_1).f1) ((rd_T43 l0 x4_1).f2) _ _ ((rd_T43 l0 x4_1).f3) true _ ?side1 ?side2 A9.out).mono ?_); (case side1 => exact Kd.C_below HR115_3.out (by repeat (first | (with_reducible first | exact HB.out | apply below_alloc | apply pw_below_drewN | apply below_drew1 | refine below_set ?_ GE116.out) | exact HB.out))); (case side2 => exact HC115_3.out); rintro e w17 ⟨rfl, hb⟩; refine ⟨_, rfl, ?_⟩; have n0_ := Aside0.mk (RF_below (RF_far4 HO_3.out BK116.out _ _ _ _) hb); have n1_ := Aside0.mk (blk_below (g := gb116) (o := .cells #[.int .i64 ((rd_T43 l0 x4_1).f0), .int .i64 ((rd_T43 l0 x4_1).f1), .int .i64 ((rd_T43 l0 x4_1).f2), .slice A115_3 ((rd_T43 l0 x4_1).f3).length c115_3] 43 (0, 0)) (by (with_reducible repeat (first | refine blk_drewN ?_ _ | refine blk_drew ?_ | refine blk_alloc ?_ _)); refine blk_put (cs := #[.int .i64 ((rd_T43 l0 x4_1).f0), .int .i64 ((rd_T43 l0 x4_1).f1), .int .i64 ((rd_T43 l0 x4_1).f2), .slice none 0 0]) ?_ 3 _ rfl; (with_reducible repeat (first | refine blk_drewN ?_ _ | refine blk_drew ?_ | refine blk_alloc ?_ _)); refine blk_put (cs := #[.int .i64 ((rd_T43 l0 x4_1).f0), .int .i64 ((rd_T43 l0 x4_1).f1), .int .i64 0, .slice none 0 0]) ?_ 2 _ rfl; (with_reducible repeat (first | refine blk_drewN ?_ _ | refine blk_drew ?_ | refine blk_alloc ?_ _)); refine blk_put (cs := #[.int .i64 ((rd_T43 l0 x4_1).f0), .int .i64 0, .int .i64 0, .slice none 0 0]) ?_ 1 _ rfl; (with_reducible repeat (first | refine blk_drewN ?_ _ | refine blk_drew ?_ | refine blk_alloc ?_ _)); refine blk_put (cs := #[.int .i64 0, .int .i64 0, .int .i64 0, .slice none 0 0]) ?_ 0 _ rfl; (with_reducible repeat (first | refine blk_drewN ?_ _ | refine blk_drew ?_ | refine blk_alloc ?_ _)); exact BK116.out) hb); have n2_ := Aside0.mk (below_step (by repeat (first | (with_reducible first | exact HB.out | apply below_alloc | apply pw_below_drewN | apply below_drew1 | refine below_set ?_ GE116.out) | exact HB.out)) hb); clear HO_3; clear BK116; clear HB; have HO_3 := n0_; have BK116 := n1_; have HB := n2_; clear n0_ n1_ n2_; (try clear hb); (try clear hb2); (try clear hk); (try clear hi); have hcz18_0 : w17.cell? ⟨gb116, 0, none⟩ = some (.int .i64 ((rd_T43 l0 x4_1).f0)) := (blk_cell BK116.out 0).trans rfl; have hcz18_1 : w17.cell? ⟨gb116, 1, none⟩ = some (.int .i64 ((rd_T43 l0 x4_1).f1)) := (blk_cell BK116.out 1).trans rfl; have hcz18_2 : w17.cell? ⟨gb116, 2, none⟩ = some (.int .i64 ((rd_T43 l0 x4_1).f2)) := (blk_cell BK116.out 2).trans rfl; have hcz18_3 : w17.cell? ⟨gb116, 3, none⟩ = some (.slice A115_3 ((rd_T43 l0 x4_1).f3).length c115_3) := (blk_cell BK116.out 3).trans rfl; have hfz18_0 := blk_frozen BK116.out 0; have hfz18_1 := blk_frozen BK116.out 1; have hfz18_2 := blk_frozen BK116.out 2; have hfz18_3 := blk_frozen BK116.out 3) | ((with_reducible refine gate_builtin (b := .append) (xs := #[.tmp 26, .tmp 30]) rfl ?_); at_builtin; refine RF_append (w0 := w) w.heap.size rfl (.tmp 26) (.tmp 30) 22 rfl Try.underlying22 info5 u3 x3_1 (((rd_T43 l0 x4_1).f0) % 256) rfl rfl ?aO ?aB ?aS ?aL ?_; (case aB => exact (by repeat (first | (with_reducible first | exact HB.out | apply below_alloc | apply pw_below_drewN | apply below_drew1 | refine below_set ?_ GE116.out) | exact HB.out))); (case aO => exact HO_3.out); (case aS => exact (below_size (by repeat (first | (with_reducible first | exact HB.out | apply below_alloc | apply pw_below_drewN | apply below_drew1 | refine below_set ?_ GE116.out) | exact HB.out)))); (case aL => have := LMc11.out; omega); intro v122 w19 ho hb hg hat; rw [← Ny121.out] at ho; have n0_ := Aside0.mk (blk_grown (g := gb116) (o := .cells #[.int .i64 ((rd_T43 l0 x4_1).f0), .int .i64 ((rd_T43 l0 x4_1).f1), .int .i64 ((rd_T43 l0 x4_1).f2), .slice A115_3 ((rd_T43 l0 x4_1).f3).length c115_3] 43 (0, 0)) (by (with_reducible repeat (first | refine blk_drewN ?_ _ | refine blk_drew ?_ | refine blk_alloc ?_ _)); exact BK116.out) hg (RF_ne HO_3.out BK116.out)); have n1_ := Aside0.mk (hb); have n2_ := Aside0.mk (ho); clear BK116; clear HB; clear HO_3; have BK116 := n0_; have HB := n1_; have HO123 := n2_; clear n0_ n1_ n2_; clear ho hb hg hat; have hcz20_0 : w19.cell? ⟨gb116, 0, none⟩ = some (.int .i64 ((rd_T43 l0 x4_1).f0)) := (blk_cell BK116.out 0).trans rfl; have hcz20_1 : w19.cell? ⟨gb116, 1, none⟩ = some (.int .i64 ((rd_T43 l0 x4_1).f1)) := (blk_cell BK116.out 1).trans rfl; have hcz20_2 : w19.cell? ⟨gb116, 2, none⟩ = some (.int .i64 ((rd_T43 l0 x4_1).f2)) := (blk_cell BK116.out 2).trans rfl; have hcz20_3 : w19.cell? ⟨gb116, 3, none⟩ = some (.slice A115_3 ((rd_T43 l0 x4_1).f3).length c115_3) := (blk_cell BK116.out 3).trans rfl; have hfz20_0 := blk_frozen BK116.out 0; have hfz20_1 := blk_frozen BK116.out 1; have hfz20_2 := blk_frozen BK116.out 2; have hfz20_3 := blk_frozen BK116.out 3))
                  have n0_ := Aside0.mk (Kd.R_drew HO123.out)
                  have n1_ := Aside0.mk (blk_drew BK116.out)
                  have n2_ := Aside0.mk (below_drew1 HB.out)
                  clear HO123
                  clear BK116
                  clear HB
                  have HO123 := n0_
                  have BK116 := n1_
                  have HB := n2_
                  clear n0_ n1_ n2_
                  obtain ⟨Ao22, co22, eo22⟩ := Kd.R_slice HO123.out
                  (first | subst eo22 | (injection eo22 with f1_ f2_ f3_; have f4_ := f1_.symm; have f5_ := f3_.symm; clear f1_ f2_ f3_; subst f4_; subst f5_))
                  refine start_ (n := 8) (S := fun w' => w'.cell? ⟨gb116, 0, none⟩ = some (.int .i64 ((rd_T43 l0 x4_1).f0)) ∧ w'.cell? ⟨gb116, 1, none⟩ = some (.int .i64 ((rd_T43 l0 x4_1).f1)) ∧ w'.cell? ⟨gb116, 2, none⟩ = some (.int .i64 ((rd_T43 l0 x4_1).f2)) ∧ w'.cell? ⟨gb116, 3, none⟩ = some (.slice A115_3 ((rd_T43 l0 x4_1).f3).length c115_3)) (ds := []) #[false, false, false, false, false, false, false, false] (by kernel_rfl) rfl rfl ⟨(blk_cell BK116.out 0).trans rfl, (blk_cell BK116.out 1).trans rfl, (blk_cell BK116.out 2).trans rfl, (blk_cell BK116.out 3).trans rfl⟩ (fun hHeld => ?_); refine with_tabW spec_DeltaBytes.tab12 spec_DeltaBytes.bits12 (fun HT_ HW_ => ?_)
                  generalize w19.drew = w21 at HO123 BK116 HB hHeld ⊢
                  refine pure_ (i := 0) (N := some 35) (v := ?_) (a' := ?_) #[true, false, false, false, false, false, false, false] rfl rfl (any_of HT_.out (by kernel_rfl)) (fun _ _ _ h => h) (Or.inl ⟨by rfl, ?_⟩) ?_ ?_
                  rotate_left
                  · intro w'
                    go_simp
                    with_reducible rfl
                  rotate_left
                  · simp only [Act.put, List.setIfInBounds_toArray, List.set_cons_zero, List.set_cons_succ, i64_w, i32_w]
                    rfl
                  refine pure_ (i := 1) (N := some 36) (v := ?_) (a' := ?_) #[true, true, false, false, false, false, false, false] rfl rfl (any_of HT_.out (by kernel_rfl)) (fun _ _ _ h => h) (Or.inl ⟨by rfl, ?_⟩) ?_ ?_
                  rotate_left
                  · intro w'
                    go_simp
                    with_reducible rfl
                  rotate_left
                  · simp only [Act.put, List.setIfInBounds_toArray, List.set_cons_zero, List.set_cons_succ, i64_w, i32_w]
                    rfl
                  refine pure_ (i := 4) (N := some 39) (v := ?_) (a' := ?_) #[true, true, false, false, true, false, false, false] rfl rfl (any_of HT_.out (by kernel_rfl)) (fun _ _ _ h => h) (Or.inl ⟨by rfl, ?_⟩) ?_ ?_
                  rotate_left
                  · intro w'
                    go_simp
                    with_reducible rfl
                  rotate_left
                  · simp only [Act.put, List.setIfInBounds_toArray, List.set_cons_zero, List.set_cons_succ, i64_w, i32_w]
                    rfl
                  refine take_ (i := 2) (N := some 37) (v := ?_) (a' := ?_) #[true, true, true, false, true, false, false, false] rfl rfl (take_ofW HT_.out HW_.out (by kernel_rfl)) (fun _ _ _ h => h) (Or.inl ⟨by rfl, ?_⟩) hHeld ?_ ?_
                  rotate_left
                  · rintro w' ⟨s0, s1, s2, s3⟩
                    go_simp
                    with_reducible rfl
                  rotate_left
                  · simp only [Act.put, List.setIfInBounds_toArray, List.set_cons_zero, List.set_cons_succ, i64_w, i32_w]
                    rfl
                  refine take_ (i := 5) (N := some 40) (v := ?_) (a' := ?_) #[true, true, true, false, true, true, false, false] rfl rfl (take_ofW HT_.out HW_.out (by kernel_rfl)) (fun _ _ _ h => h) (Or.inl ⟨by rfl, ?_⟩) hHeld ?_ ?_
                  rotate_left
                  · rintro w' ⟨s0, s1, s2, s3⟩
                    go_simp
                    with_reducible rfl
                  rotate_left
                  · simp only [Act.put, List.setIfInBounds_toArray, List.set_cons_zero, List.set_cons_succ, i64_w, i32_w]
                    rfl
                  refine one_ (i := 3) (N := some 38) #[true, true, true, true, true, true, false, false] rfl rfl (one_of HT_.out (by kernel_rfl)) (by decide) (fun K hK => ?_)
                  refine goes_ Try.func37 (by kernel_rfl) rfl #[.slice Ao22 y121.length co22, .int .i64 ((rd_T43 l0 x4_1).f1)] (by rfl) rfl rfl (by (try simp only [List.map_toArray, List.map_cons, List.map_nil]); first | done | rfl | (simp only [List.length_drop, List.length_take]; rfl)) ?_
                  with_reducible refine (spec_l10Num.calls k1 (fun k_ => some k_ = (.slice Ao22 y121.length co22 : Value).ownBlock) (.slice Ao22 y121.length co22) y121 ((rd_T43 l0 x4_1).f1) t124 w _ ?side1 ?side2 A13.out).mono ?_
                  (case side1 => repeat (first | (with_reducible first | exact HB.out | apply below_alloc | apply pw_below_drewN | apply below_drew1 | refine below_set ?_ GE116.out) | exact HB.out))
                  (case side2 => exact Kd.R_tight rfl HO123.out)
                  rintro e w23 ⟨v125, rfl, ho0, hb, hkp⟩
                  refine ⟨_, rfl, ?_⟩
                  have n0_ := Aside0.mk (blk_kept (by (with_reducible repeat (first | refine blk_drewN ?_ _ | refine blk_drew ?_ | refine blk_alloc ?_ _)); exact BK116.out) hkp (fun hs_ => (fun e_ => (Kd.R_ne HO123.out BK116.out (by decide)) e_) hs_))
                  have n1_ := Aside0.mk (Kd.R_mono (ok' := fun k_ => True) ho0 (fun k_ hk_ => trivial))
                  have n2_ := Aside0.mk (hb)
                  clear BK116
                  clear HB
                  clear HO123
                  have BK116 := n0_
                  have HO126 := n1_
                  have HB := n2_
                  clear n0_ n1_ n2_
                  (try clear hb)
                  (try clear hkp)
                  (try clear ho0)
                  obtain ⟨Ao24, co24, eo24⟩ := Kd.R_slice HO126.out
                  (first | subst eo24 | (injection eo24 with f1_ f2_ f3_; have f4_ := f1_.symm; have f5_ := f3_.symm; clear f1_ f2_ f3_; subst f4_; subst f5_))
                  refine hK.out _ _ ⟨(blk_cell BK116.out 0).trans rfl, (blk_cell BK116.out 1).trans rfl, (blk_cell BK116.out 2).trans rfl, (blk_cell BK116.out 3).trans rfl⟩ (fun hHeld => ?_)
                  clear hK K
                  refine norm_ (a' := ?_) ?_ ?_
                  rotate_left
                  · show Act.put _ (some 38) _ = _
                    simp only [Act.put, List.setIfInBounds_toArray, List.set_cons_zero, List.set_cons_succ, i64_w, i32_w]
                    rfl
                  refine one_ (i := 6) (N := some 41) #[true, true, true, true, true, true, true, false] rfl rfl (one_of HT_.out (by kernel_rfl)) (by decide) (fun K hK => ?_)
                  refine goes_ Try.func37 (by kernel_rfl) rfl #[.slice Ao24 t124.length co24, .int .i64 ((rd_T43 l0 x4_1).f2)] (by rfl) rfl rfl (by (try simp only [List.map_toArray, List.map_cons, List.map_nil]); first | done | rfl | (simp only [List.length_drop, List.length_take]; rfl)) ?_
                  with_reducible refine (spec_l10Num.calls k1 (fun k_ => some k_ = (.slice Ao24 t124.length co24 : Value).ownBlock) (.slice Ao24 t124.length co24) t124 ((rd_T43 l0 x4_1).f2) t127 w _ ?side1 ?side2 A14.out).mono ?_
                  (case side1 => repeat (first | (with_reducible first | exact HB.out | apply below_alloc | apply pw_below_drewN | apply below_drew1 | refine below_set ?_ GE116.out) | exact HB.out))
                  (case side2 => exact Kd.R_tight rfl HO126.out)
                  rintro e w25 ⟨v128, rfl, ho0, hb, hkp⟩
                  refine ⟨_, rfl, ?_⟩
                  have n0_ := Aside0.mk (blk_kept (by (with_reducible repeat (first | refine blk_drewN ?_ _ | refine blk_drew ?_ | refine blk_alloc ?_ _)); exact BK116.out) hkp (fun hs_ => (fun e_ => (Kd.R_ne HO126.out BK116.out (by decide)) e_) hs_))
                  have n1_ := Aside0.mk (Kd.R_mono (ok' := fun k_ => True) ho0 (fun k_ hk_ => trivial))
                  have n2_ := Aside0.mk (hb)
                  clear BK116
                  clear HB
                  clear HO126
                  have BK116 := n0_
                  have HO129 := n1_
                  have HB := n2_
                  clear n0_ n1_ n2_
                  (try clear hb)
                  (try clear hkp)
                  (try clear ho0)
                  refine hK.out _ _ ⟨(blk_cell BK116.out 0).trans rfl, (blk_cell BK116.out 1).trans rfl, (blk_cell BK116.out 2).trans rfl, (blk_cell BK116.out 3).trans rfl⟩ (fun hHeld => ?_)
                  clear hK K
                  refine norm_ (a' := ?_) ?_ ?_
                  rotate_left
                  · show Act.put _ (some 41) _ = _
                    simp only [Act.put, List.setIfInBounds_toArray, List.set_cons_zero, List.set_cons_succ, i64_w, i32_w]
                    rfl
                  refine pure_ (i := 7) (N := some 3) (v := ?_) (a' := ?_) #[true, true, true, true, true, true, true, true] rfl rfl (any_of HT_.out (by kernel_rfl)) (fun _ _ _ h => h) (Or.inl ⟨by rfl, ?_⟩) ?_ ?_
                  rotate_left
                  · intro w'
                    go_simp
                    with_reducible rfl
                  rotate_left
                  · simp only [Act.put, List.setIfInBounds_toArray, List.set_cons_zero, List.set_cons_succ, i64_w, i32_w]
                    rfl
                  refine done_ (done_of HT_.out (by kernel_rfl)) ?_
                  try go_wp2
                  go_roundg k1
                  case measure => have := HK1.out; omega
                  case rel => exact ⟨(t127), (wrap64 (x4_1 + 1)), (by first | rfl | (simp; done) | (simp [*]; done)), H', ⟨by have := HK1.out; omega⟩, ⟨.inl HO129.out⟩, ⟨by repeat (first | (with_reducible first | exact HB.out | apply below_alloc | apply pw_below_drewN | apply below_drew1 | refine below_set ?_ GE116.out) | exact HB.out)⟩⟩
                · rw [if_neg c12] at H
                  have c12b0 : (((rd_T43 l0 x4_1).f0) == 1) = false := beq_eq_false_iff_ne.mpr c12
                  have c12b1 : (((rd_T43 l0 x4_1).f0) != 1) = true := bne_iff_ne.mpr c12
                  replace H := Option.bind_eq_some_iff.mp H
                  obtain ⟨t130, A260, H⟩ := H
                  replace H : (if t130.length + ((rd_T43 l0 x4_1).f3).length < 140737488355328 then (spec_DeltaBytes.l0 k1 l0 (t130 ++ ((rd_T43 l0 x4_1).f3)) (wrap64 (x4_1 + 1))) else (none)) = some r := H
                  have A26 := Aside0.mk A260
                  clear A260
                  by_cases c27 : t130.length + ((rd_T43 l0 x4_1).f3).length < 140737488355328
                  · rw [if_pos c27] at H
                    have LMc27 := Aside0.mk c27
                    clear c27
                    obtain ⟨y133, hy133⟩ : ∃ y_ : List Int, y_ = (t130 ++ ((rd_T43 l0 x4_1).f3)) := ⟨_, rfl⟩
                    replace H : (spec_DeltaBytes.l0 k1 l0 y133 (wrap64 (x4_1 + 1))) = some r := by first | (rw [hy133]; with_reducible exact H) | (have H2_ := (Option.bind_some _ _).symm.trans H; rw [hy133]; with_reducible exact H2_) | (have H2_ := (Option.bind_some _ _).symm.trans H; with_reducible exact H2_) | with_reducible exact H | (rw [hy133]; exact H) | exact H
                    have Ny133 := Aside0.mk hy133
                    clear hy133
                    have H' := Aside0.mk H
                    clear H
                    have p115 : 0 ≤ (x4_1 : Int) := of_decide_eq_true (by first | (with_reducible assumption) | assumption)
                    have q115 : x4_1 < (l0.length : Int) := of_decide_eq_true (by first | (with_reducible assumption) | assumption)
                    obtain ⟨ad115, A115_3, c115_3, e115, hx115_0, hx115_1, hx115_2, hx115_3, hl115_3, hi115_3⟩ := at_T43 HR0.out x4_1 p115 q115
                    cases e115
                    replace hx115_0 := (HB.out.cell (World.block_lt_of_cell? w _ hx115_0)).trans hx115_0
                    replace hx115_1 := (HB.out.cell (World.block_lt_of_cell? w _ hx115_1)).trans hx115_1
                    replace hx115_2 := (HB.out.cell (World.block_lt_of_cell? w _ hx115_2)).trans hx115_2
                    replace hx115_3 := (HB.out.cell (World.block_lt_of_cell? w _ hx115_3)).trans hx115_3
                    have HR115_3 := Aside0.mk hi115_3
                    have HC115_3 := Aside0.mk hl115_3
                    clear hi115_3 hl115_3
                    replace p115 := eq_true p115
                    replace q115 := eq_true q115
                    try go_wp2_with (first | ((with_reducible refine gate_dst (N := 5) rfl ?_); refine box_event ?hg (N := 5) ?hd (cs := #[.int .i64 0, .int .i64 0, .int .i64 0, .slice none 0 0]) (t := 43) ?hr ?_; (case hd => rfl); (case hg => rfl); (case hr => first | (go_simp; done) | (go_simp; rfl)); intro gb116 hg w28 hbox hb; have n0_ := Aside0.mk (RF_below HO_3.out hb); have n1_ := Aside0.mk (below_step (by repeat (first | (with_reducible first | exact HB.out | apply below_alloc | apply pw_below_drewN | apply below_drew1) | exact HB.out)) hb); have n2_ := Aside0.mk (hbox); have n3_ := Aside0.mk ((by rw [hg]; exact (below_size (by repeat (first | (with_reducible first | exact HB.out | apply below_alloc | apply pw_below_drewN | apply below_drew1) | exact HB.out))) : w.heap.size ≤ gb116)); have n4_ := Aside0.mk ((by rw [hg]; exact (below_size (by repeat (first | (with_reducible first | exact HB.out | apply below_alloc | apply pw_below_drewN | apply below_drew1) | exact HB.out))) : w.heap.size ≤ gb116)); clear HO_3; clear HB; have HO_3 := n0_; have HB := n1_; have BK116 := n2_; have GW116 := n3_; have GE116 := n4_; clear n0_ n1_ n2_ n3_ n4_; clear hb hbox hg; have hcz29_0 : w28.cell? ⟨gb116, 0, none⟩ = some (.int .i64 0) := (blk_cell BK116.out 0).trans rfl; have hcz29_1 : w28.cell? ⟨gb116, 1, none⟩ = some (.int .i64 0) := (blk_cell BK116.out 1).trans rfl; have hcz29_2 : w28.cell? ⟨gb116, 2, none⟩ = some (.int .i64 0) := (blk_cell BK116.out 2).trans rfl; have hcz29_3 : w28.cell? ⟨gb116, 3, none⟩ = some (.slice none 0 0) := (blk_cell BK116.out 3).trans rfl; have hfz29_0 := blk_frozen BK116.out 0; have hfz29_1 := blk_frozen BK116.out 1; have hfz29_2 := blk_frozen BK116.out 2; have hfz29_3 := blk_frozen BK116.out 3) | ((with_reducible refine gate_callee (f := 36) rfl ?_); refine goesL_ (some 23) rfl rfl Try.func36 (by kernel_rfl) rfl #[.agg #[.int .i64 ((rd_T43 l0 x4_1).f0), .int .i64 ((rd_T43 l0 x4_1).f1), .int .i64 ((rd_T43 l0 x4_1).f2), .slice A115_3 ((rd_T43 l0 x4_1).f3).length c115_3]] rfl (by (try simp only [List.map_toArray, List.map_cons, List.map_nil]); first | done | rfl | (simp only [List.length_drop, List.length_take]; rfl)) ?_; (with_reducible refine (spec_l14StepOk.calls ((rd_T43 l0 x4_1).f0) ((rd_T43 l0 x4_1).f1) ((rd_T43 l0 x4_1).f2) _ _ ((rd_T43 l0 x4_1).f3) true _ ?side1 ?side2 A9.out).mono ?_); (case side1 => exact Kd.C_below HR115_3.out (by repeat (first | (with_reducible first | exact HB.out | apply below_alloc | apply pw_below_drewN | apply below_drew1 | refine below_set ?_ GE116.out) | exact HB.out))); (case side2 => exact HC115_3.out); rintro e w30 ⟨rfl, hb⟩; refine ⟨_, rfl, ?_⟩; have n0_ := Aside0.mk (RF_below (RF_far4 HO_3.out BK116.out _ _ _ _) hb); have n1_ := Aside0.mk (blk_below (g := gb116) (o := .cells #[.int .i64 ((rd_T43 l0 x4_1).f0), .int .i64 ((rd_T43 l0 x4_1).f1), .int .i64 ((rd_T43 l0 x4_1).f2), .slice A115_3 ((rd_T43 l0 x4_1).f3).length c115_3] 43 (0, 0)) (by (with_reducible repeat (first | refine blk_drewN ?_ _ | refine blk_drew ?_ | refine blk_alloc ?_ _)); refine blk_put (cs := #[.int .i64 ((rd_T43 l0 x4_1).f0), .int .i64 ((rd_T43 l0 x4_1).f1), .int .i64 ((rd_T43 l0 x4_1).f2), .slice none 0 0]) ?_ 3 _ rfl; (with_reducible repeat (first | refine blk_drewN ?_ _ | refine blk_drew ?_ | refine blk_alloc ?_ _)); refine blk_put (cs := #[.int .i64 ((rd_T43 l0 x4_1).f0), .int .i64 ((rd_T43 l0 x4_1).f1), .int .i64 0, .slice none 0 0]) ?_ 2 _ rfl; (with_reducible repeat (first | refine blk_drewN ?_ _ | refine blk_drew ?_ | refine blk_alloc ?_ _)); refine blk_put (cs := #[.int .i64 ((rd_T43 l0 x4_1).f0), .int .i64 0, .int .i64 0, .slice none 0 0]) ?_ 1 _ rfl; (with_reducible repeat (first | refine blk_drewN ?_ _ | refine blk_drew ?_ | refine blk_alloc ?_ _)); refine blk_put (cs := #[.int .i64 0, .int .i64 0, .int .i64 0, .slice none 0 0]) ?_ 0 _ rfl; (with_reducible repeat (first | refine blk_drewN ?_ _ | refine blk_drew ?_ | refine blk_alloc ?_ _)); exact BK116.out) hb); have n2_ := Aside0.mk (below_step (by repeat (first | (with_reducible first | exact HB.out | apply below_alloc | apply pw_below_drewN | apply below_drew1 | refine below_set ?_ GE116.out) | exact HB.out)) hb); clear HO_3; clear BK116; clear HB; have HO_3 := n0_; have BK116 := n1_; have HB := n2_; clear n0_ n1_ n2_; (try clear hb); (try clear hb2); (try clear hk); (try clear hi); have hcz31_0 : w30.cell? ⟨gb116, 0, none⟩ = some (.int .i64 ((rd_T43 l0 x4_1).f0)) := (blk_cell BK116.out 0).trans rfl; have hcz31_1 : w30.cell? ⟨gb116, 1, none⟩ = some (.int .i64 ((rd_T43 l0 x4_1).f1)) := (blk_cell BK116.out 1).trans rfl; have hcz31_2 : w30.cell? ⟨gb116, 2, none⟩ = some (.int .i64 ((rd_T43 l0 x4_1).f2)) := (blk_cell BK116.out 2).trans rfl; have hcz31_3 : w30.cell? ⟨gb116, 3, none⟩ = some (.slice A115_3 ((rd_T43 l0 x4_1).f3).length c115_3) := (blk_cell BK116.out 3).trans rfl; have hfz31_0 := blk_frozen BK116.out 0; have hfz31_1 := blk_frozen BK116.out 1; have hfz31_2 := blk_frozen BK116.out 2; have hfz31_3 := blk_frozen BK116.out 3) | ((with_reducible refine gate_builtin (b := .append) (xs := #[.tmp 26, .tmp 30]) rfl ?_); at_builtin; refine RF_append (w0 := w) w.heap.size rfl (.tmp 26) (.tmp 30) 22 rfl Try.underlying22 info5 u3 x3_1 (((rd_T43 l0 x4_1).f0) % 256) rfl rfl ?aO ?aB ?aS ?aL ?_; (case aB => exact (by repeat (first | (with_reducible first | exact HB.out | apply below_alloc | apply pw_below_drewN | apply below_drew1 | refine below_set ?_ GE116.out) | exact HB.out))); (case aO => exact HO_3.out); (case aS => exact (below_size (by repeat (first | (with_reducible first | exact HB.out | apply below_alloc | apply pw_below_drewN | apply below_drew1 | refine below_set ?_ GE116.out) | exact HB.out)))); (case aL => have := LMc11.out; omega); intro v122 w32 ho hb hg hat; rw [← Ny121.out] at ho; have n0_ := Aside0.mk (blk_grown (g := gb116) (o := .cells #[.int .i64 ((rd_T43 l0 x4_1).f0), .int .i64 ((rd_T43 l0 x4_1).f1), .int .i64 ((rd_T43 l0 x4_1).f2), .slice A115_3 ((rd_T43 l0 x4_1).f3).length c115_3] 43 (0, 0)) (by (with_reducible repeat (first | refine blk_drewN ?_ _ | refine blk_drew ?_ | refine blk_alloc ?_ _)); exact BK116.out) hg (RF_ne HO_3.out BK116.out)); have n1_ := Aside0.mk (hb); have n2_ := Aside0.mk (ho); clear BK116; clear HB; clear HO_3; have BK116 := n0_; have HB := n1_; have HO123 := n2_; clear n0_ n1_ n2_; clear ho hb hg hat; have hcz33_0 : w32.cell? ⟨gb116, 0, none⟩ = some (.int .i64 ((rd_T43 l0 x4_1).f0)) := (blk_cell BK116.out 0).trans rfl; have hcz33_1 : w32.cell? ⟨gb116, 1, none⟩ = some (.int .i64 ((rd_T43 l0 x4_1).f1)) := (blk_cell BK116.out 1).trans rfl; have hcz33_2 : w32.cell? ⟨gb116, 2, none⟩ = some (.int .i64 ((rd_T43 l0 x4_1).f2)) := (blk_cell BK116.out 2).trans rfl; have hcz33_3 : w32.cell? ⟨gb116, 3, none⟩ = some (.slice A115_3 ((rd_T43 l0 x4_1).f3).length c115_3) := (blk_cell BK116.out 3).trans rfl; have hfz33_0 := blk_frozen BK116.out 0; have hfz33_1 := blk_frozen BK116.out 1; have hfz33_2 := blk_frozen BK116.out 2; have hfz33_3 := blk_frozen BK116.out 3))
                    have n0_ := Aside0.mk (Kd.R_drew HO123.out)
                    have n1_ := Aside0.mk (blk_drew BK116.out)
                    have n2_ := Aside0.mk (below_drew1 HB.out)
                    clear HO123
                    clear BK116
                    clear HB
                    have HO123 := n0_
                    have BK116 := n1_
                    have HB := n2_
                    clear n0_ n1_ n2_
                    obtain ⟨Ao35, co35, eo35⟩ := Kd.R_slice HO123.out
                    (first | subst eo35 | (injection eo35 with f1_ f2_ f3_; have f4_ := f1_.symm; have f5_ := f3_.symm; clear f1_ f2_ f3_; subst f4_; subst f5_))
                    refine start_ (n := 9) (S := fun w' => w'.cell? ⟨gb116, 0, none⟩ = some (.int .i64 ((rd_T43 l0 x4_1).f0)) ∧ w'.cell? ⟨gb116, 1, none⟩ = some (.int .i64 ((rd_T43 l0 x4_1).f1)) ∧ w'.cell? ⟨gb116, 2, none⟩ = some (.int .i64 ((rd_T43 l0 x4_1).f2)) ∧ w'.cell? ⟨gb116, 3, none⟩ = some (.slice A115_3 ((rd_T43 l0 x4_1).f3).length c115_3)) (ds := []) #[false, false, false, false, false, false, false, false, false] (by kernel_rfl) rfl rfl ⟨(blk_cell BK116.out 0).trans rfl, (blk_cell BK116.out 1).trans rfl, (blk_cell BK116.out 2).trans rfl, (blk_cell BK116.out 3).trans rfl⟩ (fun hHeld => ?_); refine with_tabW spec_DeltaBytes.tab13 spec_DeltaBytes.bits13 (fun HT_ HW_ => ?_)
                    generalize w32.drew = w34 at HO123 BK116 HB hHeld ⊢
                    refine pure_ (i := 0) (N := some 42) (v := ?_) (a' := ?_) #[true, false, false, false, false, false, false, false, false] rfl rfl (any_of HT_.out (by kernel_rfl)) (fun _ _ _ h => h) (Or.inl ⟨by rfl, ?_⟩) ?_ ?_
                    rotate_left
                    · intro w'
                      go_simp
                      with_reducible rfl
                    rotate_left
                    · simp only [Act.put, List.setIfInBounds_toArray, List.set_cons_zero, List.set_cons_succ, i64_w, i32_w]
                      rfl
                    refine pure_ (i := 1) (N := some 43) (v := ?_) (a' := ?_) #[true, true, false, false, false, false, false, false, false] rfl rfl (any_of HT_.out (by kernel_rfl)) (fun _ _ _ h => h) (Or.inl ⟨by rfl, ?_⟩) ?_ ?_
                    rotate_left
                    · intro w'
                      go_simp
                      with_reducible rfl
                    rotate_left
                    · simp only [Act.put, List.setIfInBounds_toArray, List.set_cons_zero, List.set_cons_succ, i64_w, i32_w]
                      rfl
                    refine pure_ (i := 5) (N := some 47) (v := ?_) (a' := ?_) #[true, true, false, false, false, true, false, false, false] rfl rfl (any_of HT_.out (by kernel_rfl)) (fun _ _ _ h => h) (Or.inl ⟨by rfl, ?_⟩) ?_ ?_
                    rotate_left
                    · intro w'
                      go_simp
                      with_reducible rfl
                    rotate_left
                    · simp only [Act.put, List.setIfInBounds_toArray, List.set_cons_zero, List.set_cons_succ, i64_w, i32_w]
                      rfl
                    refine take_ (i := 2) (N := some 44) (v := ?_) (a' := ?_) #[true, true, true, false, false, true, false, false, false] rfl rfl (take_ofW HT_.out HW_.out (by kernel_rfl)) (fun _ _ _ h => h) (Or.inl ⟨by rfl, ?_⟩) hHeld ?_ ?_
                    rotate_left
                    · rintro w' ⟨s0, s1, s2, s3⟩
                      go_simp
                      with_reducible rfl
                    rotate_left
                    · simp only [Act.put, List.setIfInBounds_toArray, List.set_cons_zero, List.set_cons_succ, i64_w, i32_w]
                      rfl
                    refine pure_ (i := 3) (N := some 45) (v := ?_) (a' := ?_) #[true, true, true, true, false, true, false, false, false] rfl rfl (any_of HT_.out (by kernel_rfl)) (fun _ _ _ h => h) (Or.inl ⟨by rfl, ?_⟩) ?_ ?_
                    rotate_left
                    · intro w'
                      go_simp
                      with_reducible rfl
                    rotate_left
                    · simp only [Act.put, List.setIfInBounds_toArray, List.set_cons_zero, List.set_cons_succ, i64_w, i32_w]
                      rfl
                    refine take_ (i := 6) (N := some 48) (v := ?_) (a' := ?_) #[true, true, true, true, false, true, true, false, false] rfl rfl (take_ofW HT_.out HW_.out (by kernel_rfl)) (fun _ _ _ h => h) (Or.inl ⟨by rfl, ?_⟩) hHeld ?_ ?_
                    rotate_left
                    · rintro w' ⟨s0, s1, s2, s3⟩
                      go_simp
                      with_reducible rfl
                    rotate_left
                    · simp only [Act.put, List.setIfInBounds_toArray, List.set_cons_zero, List.set_cons_succ, i64_w, i32_w]
                      rfl
                    refine one_ (i := 4) (N := some 46) #[true, true, true, true, true, true, true, false, false] rfl rfl (one_of HT_.out (by kernel_rfl)) (by decide) (fun K hK => ?_)
                    refine goes_ Try.func37 (by kernel_rfl) rfl #[.slice Ao35 y121.length co35, .int .i64 (((rd_T43 l0 x4_1).f3).length : Int)] (by rfl) rfl rfl (by (try simp only [List.map_toArray, List.map_cons, List.map_nil]); first | done | rfl | (simp only [List.length_drop, List.length_take]; rfl)) ?_
                    with_reducible refine (spec_l10Num.calls k1 (fun k_ => some k_ = (.slice Ao35 y121.length co35 : Value).ownBlock) (.slice Ao35 y121.length co35) y121 (((rd_T43 l0 x4_1).f3).length : Int) t130 w _ ?side1 ?side2 A26.out).mono ?_
                    (case side1 => repeat (first | (with_reducible first | exact HB.out | apply below_alloc | apply pw_below_drewN | apply below_drew1 | refine below_set ?_ GE116.out) | exact HB.out))
                    (case side2 => exact Kd.R_tight rfl HO123.out)
                    rintro e w36 ⟨v131, rfl, ho0, hb, hkp⟩
                    refine ⟨_, rfl, ?_⟩
                    have n0_ := Aside0.mk (blk_kept (by (with_reducible repeat (first | refine blk_drewN ?_ _ | refine blk_drew ?_ | refine blk_alloc ?_ _)); exact BK116.out) hkp (fun hs_ => (fun e_ => (Kd.R_ne HO123.out BK116.out (by decide)) e_) hs_))
                    have n1_ := Aside0.mk (Kd.R_mono (ok' := fun k_ => True) ho0 (fun k_ hk_ => trivial))
                    have n2_ := Aside0.mk (hb)
                    clear BK116
                    clear HB
                    clear HO123
                    have BK116 := n0_
                    have HO132 := n1_
                    have HB := n2_
                    clear n0_ n1_ n2_
                    (try clear hb)
                    (try clear hkp)
                    (try clear ho0)
                    refine hK.out _ _ ⟨(blk_cell BK116.out 0).trans rfl, (blk_cell BK116.out 1).trans rfl, (blk_cell BK116.out 2).trans rfl, (blk_cell BK116.out 3).trans rfl⟩ (fun hHeld => ?_)
                    clear hK K
                    refine norm_ (a' := ?_) ?_ ?_
                    rotate_left
                    · show Act.put _ (some 46) _ = _
                      simp only [Act.put, List.setIfInBounds_toArray, List.set_cons_zero, List.set_cons_succ, i64_w, i32_w]
                      rfl
                    refine one_ (i := 7) (N := some 49) #[true, true, true, true, true, true, true, true, false] rfl rfl (one_of HT_.out (by kernel_rfl)) (by decide) (fun K hK => ?_)
                    refine Kd.R_append_rows_step (Kd.int .u8) (w0 := w) w.heap.size (by rfl) (.tmp 46) (.tmp 48) 22 5 (.int .u8 0) 1 rfl Try.underlying22 info5 rfl (by decide) (by omega) v131 t130 ((rd_T43 l0 x4_1).f3) _ _ _ (fun _ => True) (fun _ => False) rfl rfl ?aO ?aR (fun _ _ h => h) (fun _ h => h.elim) ?aF ?aB ?aS ?aL ?_
                    (case aR => repeat (first | exact (Kd.C_below HR115_3.out HB.out) | (with_reducible refine Kd.C_alloc ?_ _) | (with_reducible refine Kd.C_drewN ?_ _) | (with_reducible refine Kd.C_drew ?_)))
                    (case aB => exact (by repeat (first | (with_reducible first | exact HB.out | apply below_alloc | apply pw_below_drewN | apply below_drew1 | refine below_set ?_ GE116.out) | exact HB.out)))
                    (case aF => exact (fun _ _ => trivial))
                    (case aO => exact (by (with_reducible repeat (first | apply Kd.R_alloc | apply Kd.R_drewN | apply Kd.R_drew)); exact HO132.out))
                    (case aS => exact (below_size (by repeat (first | (with_reducible first | exact HB.out | apply below_alloc | apply pw_below_drewN | apply below_drew1 | refine below_set ?_ GE116.out) | exact HB.out))))
                    (case aL => have := LMc27.out; omega)
                    intro v134 w37 ho hb hg hat
                    rw [← Ny133.out] at ho
                    have n0_ := Aside0.mk (blk_grown (g := gb116) (o := .cells #[.int .i64 ((rd_T43 l0 x4_1).f0), .int .i64 ((rd_T43 l0 x4_1).f1), .int .i64 ((rd_T43 l0 x4_1).f2), .slice A115_3 ((rd_T43 l0 x4_1).f3).length c115_3] 43 (0, 0)) (by (with_reducible repeat (first | refine blk_drewN ?_ _ | refine blk_drew ?_ | refine blk_alloc ?_ _)); exact BK116.out) hg (Kd.R_ne HO132.out BK116.out (by decide)))
                    have n1_ := Aside0.mk (hb)
                    have n2_ := Aside0.mk (ho)
                    clear BK116
                    clear HB
                    clear HO132
                    have BK116 := n0_
                    have HB := n1_
                    have HO135 := n2_
                    clear n0_ n1_ n2_
                    clear ho hb hg hat
                    refine hK.out _ _ ⟨(blk_cell BK116.out 0).trans rfl, (blk_cell BK116.out 1).trans rfl, (blk_cell BK116.out 2).trans rfl, (blk_cell BK116.out 3).trans rfl⟩ (fun hHeld => ?_)
                    clear hK K
                    refine norm_ (a' := ?_) ?_ ?_
                    rotate_left
                    · show Act.put _ (some 49) _ = _
                      simp only [Act.put, List.setIfInBounds_toArray, List.set_cons_zero, List.set_cons_succ, i64_w, i32_w]
                      rfl
                    refine pure_ (i := 8) (N := some 3) (v := ?_) (a' := ?_) #[true, true, true, true, true, true, true, true, true] rfl rfl (any_of HT_.out (by kernel_rfl)) (fun _ _ _ h => h) (Or.inl ⟨by rfl, ?_⟩) ?_ ?_
                    rotate_left
                    · intro w'
                      go_simp
                      with_reducible rfl
                    rotate_left
                    · simp only [Act.put, List.setIfInBounds_toArray, List.set_cons_zero, List.set_cons_succ, i64_w, i32_w]
                      rfl
                    refine done_ (done_of HT_.out (by kernel_rfl)) ?_
                    try go_wp2
                    go_roundg k1
                    case measure => have := HK1.out; omega
                    case rel => exact ⟨(y133), (wrap64 (x4_1 + 1)), (by first | rfl | (simp; done) | (simp [*]; done)), H', ⟨by have := HK1.out; omega⟩, ⟨.inl HO135.out⟩, ⟨by repeat (first | (with_reducible first | exact HB.out | apply below_alloc | apply pw_below_drewN | apply below_drew1 | refine below_set ?_ GE116.out) | exact HB.out)⟩⟩
                  · rw [if_neg c27] at H
                    exact absurd H (by simp)
              · rw [if_neg c11] at H
                exact absurd H (by simp)
            · replace c10 := Bool.eq_false_iff.mpr c10
              subst c10
              have H1 : (some (([] : List Int))) = some r := by rw [if_neg (show ¬ (false = true) by decide)] at H; exact H
              clear H
              have H := H1
              clear H1
              obtain ⟨y118, hy118⟩ : ∃ y_ : List Int, y_ = (([] : List Int)) := ⟨_, rfl⟩
              replace H : (some y118) = some r := by first | (rw [hy118]; with_reducible exact H) | (have H2_ := (Option.bind_some _ _).symm.trans H; rw [hy118]; with_reducible exact H2_) | (have H2_ := (Option.bind_some _ _).symm.trans H; with_reducible exact H2_) | with_reducible exact H | (rw [hy118]; exact H) | exact H
              have Ny118 := Aside0.mk hy118
              clear hy118
              obtain rfl := Option.some.inj H
              have p115 : 0 ≤ (x4_1 : Int) := of_decide_eq_true (by first | (with_reducible assumption) | assumption)
              have q115 : x4_1 < (l0.length : Int) := of_decide_eq_true (by first | (with_reducible assumption) | assumption)
              obtain ⟨ad115, A115_3, c115_3, e115, hx115_0, hx115_1, hx115_2, hx115_3, hl115_3, hi115_3⟩ := at_T43 HR0.out x4_1 p115 q115
              cases e115
              replace hx115_0 := (HB.out.cell (World.block_lt_of_cell? w _ hx115_0)).trans hx115_0
              replace hx115_1 := (HB.out.cell (World.block_lt_of_cell? w _ hx115_1)).trans hx115_1
              replace hx115_2 := (HB.out.cell (World.block_lt_of_cell? w _ hx115_2)).trans hx115_2
              replace hx115_3 := (HB.out.cell (World.block_lt_of_cell? w _ hx115_3)).trans hx115_3
              have HR115_3 := Aside0.mk hi115_3
              have HC115_3 := Aside0.mk hl115_3
              clear hi115_3 hl115_3
              replace p115 := eq_true p115
              replace q115 := eq_true q115
              go_wp2_with (first | ((with_reducible refine gate_dst (N := 5) rfl ?_); refine box_event ?hg (N := 5) ?hd (cs := #[.int .i64 0, .int .i64 0, .int .i64 0, .slice none 0 0]) (t := 43) ?hr ?_; (case hd => rfl); (case hg => rfl); (case hr => first | (go_simp; done) | (go_simp; rfl)); intro gb116 hg w38 hbox hb; have n0_ := Aside0.mk (RF_below HO_3.out hb); have n1_ := Aside0.mk (below_step (by repeat (first | (with_reducible first | exact HB.out | apply below_alloc | apply pw_below_drewN | apply below_drew1) | exact HB.out)) hb); have n2_ := Aside0.mk (hbox); have n3_ := Aside0.mk ((by rw [hg]; exact (below_size (by repeat (first | (with_reducible first | exact HB.out | apply below_alloc | apply pw_below_drewN | apply below_drew1) | exact HB.out))) : w.heap.size ≤ gb116)); have n4_ := Aside0.mk ((by rw [hg]; exact (below_size (by repeat (first | (with_reducible first | exact HB.out | apply below_alloc | apply pw_below_drewN | apply below_drew1) | exact HB.out))) : w.heap.size ≤ gb116)); clear HO_3; clear HB; have HO_3 := n0_; have HB := n1_; have BK116 := n2_; have GW116 := n3_; have GE116 := n4_; clear n0_ n1_ n2_ n3_ n4_; clear hb hbox hg; have hcz39_0 : w38.cell? ⟨gb116, 0, none⟩ = some (.int .i64 0) := (blk_cell BK116.out 0).trans rfl; have hcz39_1 : w38.cell? ⟨gb116, 1, none⟩ = some (.int .i64 0) := (blk_cell BK116.out 1).trans rfl; have hcz39_2 : w38.cell? ⟨gb116, 2, none⟩ = some (.int .i64 0) := (blk_cell BK116.out 2).trans rfl; have hcz39_3 : w38.cell? ⟨gb116, 3, none⟩ = some (.slice none 0 0) := (blk_cell BK116.out 3).trans rfl; have hfz39_0 := blk_frozen BK116.out 0; have hfz39_1 := blk_frozen BK116.out 1; have hfz39_2 := blk_frozen BK116.out 2; have hfz39_3 := blk_frozen BK116.out 3) | ((with_reducible refine gate_callee (f := 36) rfl ?_); refine goesL_ (some 23) rfl rfl Try.func36 (by kernel_rfl) rfl #[.agg #[.int .i64 ((rd_T43 l0 x4_1).f0), .int .i64 ((rd_T43 l0 x4_1).f1), .int .i64 ((rd_T43 l0 x4_1).f2), .slice A115_3 ((rd_T43 l0 x4_1).f3).length c115_3]] rfl (by (try simp only [List.map_toArray, List.map_cons, List.map_nil]); first | done | rfl | (simp only [List.length_drop, List.length_take]; rfl)) ?_; (with_reducible refine (spec_l14StepOk.calls ((rd_T43 l0 x4_1).f0) ((rd_T43 l0 x4_1).f1) ((rd_T43 l0 x4_1).f2) _ _ ((rd_T43 l0 x4_1).f3) false _ ?side1 ?side2 A9.out).mono ?_); (case side1 => exact Kd.C_below HR115_3.out (by repeat (first | (with_reducible first | exact HB.out | apply below_alloc | apply pw_below_drewN | apply below_drew1 | refine below_set ?_ GE116.out) | exact HB.out))); (case side2 => exact HC115_3.out); rintro e w40 ⟨rfl, hb⟩; refine ⟨_, rfl, ?_⟩; have n0_ := Aside0.mk (RF_below (RF_far4 HO_3.out BK116.out _ _ _ _) hb); have n1_ := Aside0.mk (blk_below (g := gb116) (o := .cells #[.int .i64 ((rd_T43 l0 x4_1).f0), .int .i64 ((rd_T43 l0 x4_1).f1), .int .i64 ((rd_T43 l0 x4_1).f2), .slice A115_3 ((rd_T43 l0 x4_1).f3).length c115_3] 43 (0, 0)) (by (with_reducible repeat (first | refine blk_drewN ?_ _ | refine blk_drew ?_ | refine blk_alloc ?_ _)); refine blk_put (cs := #[.int .i64 ((rd_T43 l0 x4_1).f0), .int .i64 ((rd_T43 l0 x4_1).f1), .int .i64 ((rd_T43 l0 x4_1).f2), .slice none 0 0]) ?_ 3 _ rfl; (with_reducible repeat (first | refine blk_drewN ?_ _ | refine blk_drew ?_ | refine blk_alloc ?_ _)); refine blk_put (cs := #[.int .i64 ((rd_T43 l0 x4_1).f0), .int .i64 ((rd_T43 l0 x4_1).f1), .int .i64 0, .slice none 0 0]) ?_ 2 _ rfl; (with_reducible repeat (first | refine blk_drewN ?_ _ | refine blk_drew ?_ | refine blk_alloc ?_ _)); refine blk_put (cs := #[.int .i64 ((rd_T43 l0 x4_1).f0), .int .i64 0, .int .i64 0, .slice none 0 0]) ?_ 1 _ rfl; (with_reducible repeat (first | refine blk_drewN ?_ _ | refine blk_drew ?_ | refine blk_alloc ?_ _)); refine blk_put (cs := #[.int .i64 0, .int .i64 0, .int .i64 0, .slice none 0 0]) ?_ 0 _ rfl; (with_reducible repeat (first | refine blk_drewN ?_ _ | refine blk_drew ?_ | refine blk_alloc ?_ _)); exact BK116.out) hb); have n2_ := Aside0.mk (below_step (by repeat (first | (with_reducible first | exact HB.out | apply below_alloc | apply pw_below_drewN | apply below_drew1 | refine below_set ?_ GE116.out) | exact HB.out)) hb); clear HO_3; clear BK116; clear HB; have HO_3 := n0_; have BK116 := n1_; have HB := n2_; clear n0_ n1_ n2_; (try clear hb); (try clear hb2); (try clear hk); (try clear hi)) | ((with_reducible refine gate_dst (N := 25) rfl ?_); refine Kd.R_lit (Kd.int .u8) _ 5 ?hg (N := 25) ?hd (xs := ([] : List Int)) (inner := []) (ok := fun _ => True) (okp := fun _ => True) ?hr ?hp (fun _ hk => hk) trivial (Below.refl _ _) (Nat.le_refl _) (by simp) ?_; (case hd => rfl); (case hg => rfl); (case hr => first | (go_simp; done) | (go_simp; rfl)); (case hp => exact (Reps.none _ _)); intro v119 w41 ho42 hb hg_ hnew_; clear hg_ hnew_; (first | rw [← Ny118.out] at ho42 | (simp only [Int.reduceToNat] at ho42; rw [← Ny118.out] at ho42)); have n0_ := Aside0.mk (RF_below HO_3.out hb); have n1_ := Aside0.mk (Kd.R_lower ho42 (below_size (by repeat (first | (with_reducible first | exact HB.out | apply below_alloc | apply pw_below_drewN | apply below_drew1 | refine below_set ?_ GE116.out) | exact HB.out)))); have n2_ := Aside0.mk (blk_below (g := gb116) (o := .cells #[.int .i64 ((rd_T43 l0 x4_1).f0), .int .i64 ((rd_T43 l0 x4_1).f1), .int .i64 ((rd_T43 l0 x4_1).f2), .slice A115_3 ((rd_T43 l0 x4_1).f3).length c115_3] 43 (0, 0)) (by (with_reducible repeat (first | refine blk_drewN ?_ _ | refine blk_drew ?_ | refine blk_alloc ?_ _)); exact BK116.out) hb); have n3_ := Aside0.mk (below_step (by repeat (first | (with_reducible first | exact HB.out | apply below_alloc | apply pw_below_drewN | apply below_drew1 | refine below_set ?_ GE116.out) | exact HB.out)) hb); clear HO_3; clear BK116; clear HB; have HO_3 := n0_; have HO120 := n1_; have BK116 := n2_; have HB := n3_; clear n0_ n1_ n2_ n3_; clear hb ho42))
              go_ret
              exact ⟨_, by first | rfl | (simp [errW_none, errW_some] <;> rfl) | (simp [*, errW_none, errW_some] <;> rfl), .inl (Kd.R_mono HO120.out (fun _ hk => trivial)), by repeat (first | (with_reducible first | exact HB.out | apply below_alloc | apply pw_below_drewN | apply below_drew1 | refine below_set ?_ GE116.out) | exact HB.out)⟩
          · rw [if_neg c8] at H
            exact absurd H (by simp)
        · rw [if_neg c7] at H
          have c7b0 : decide (x4_1 < (l0.length : Int)) = false := decide_eq_false c7
          clear c7
          obtain rfl := Option.some.inj H
          go_wp2
          go_ret
          exact ⟨_, by first | rfl | (simp [errW_none, errW_some] <;> rfl) | (simp [*, errW_none, errW_some] <;> rfl), HO_3.out, by repeat (first | (with_reducible first | exact HB.out | apply below_alloc | apply pw_below_drewN | apply below_drew1) | exact HB.out)⟩
end Go.Proofs.Ythofgkmfllccnaa.G
