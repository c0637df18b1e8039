/-
  Part 1 of the texts of this claim: G0, XMarks, XShelf, XContains, GImplDigit, GImplLetter, GImplNameOk, GImplRisingHs, GImplNamesUp, GSpecL1Digit, GSpecL1Letter, GSpecNameOk, GSpecL8Names, GSpecL17Ascending, XNames, XUnitsPlain, XOrder.
-/
import Derived.Test.YtnjmhlhlmokjnaaProg
import Derived.WalkLawsBesides
import Derived.Below
import Derived.Deep.Draws
import Derived.Deep.AppendLies
import Derived.Maps.AppendAt
import Derived.OwnWalk
import Derived.Laws.BytesArg
import Derived.Laws.MakeOwn
import Derived.Laws.OwnMore
import Derived.Deep.OwnRows
import Derived.Tactics
import Derived.Lib.ConvBytes
import Derived.Laws.Slices
import Derived.WalkKit
import Derived.KernelRfl
import Derived.RowKit3
import Derived.Deep.LoopGhost
import Derived.Deep.QuietTactic
import Derived.BigQuiet
import Derived.WideLaws
import Derived.Deep.DeepCutAuto
import Derived.Deep.CutBlock
import Derived.Deep.RegionHeld3
import Derived.Laws.Rows
import Derived.Lib.AppendStr
import Derived.ArgAppend
import Derived.Laws.IdiomCopy
import Derived.OrdersHeld
import Derived.Laws.BitsLemmas
import Derived.RowKit
import Derived.Shelf.Small.Utf8
import Derived.Shelf.Small.Strs
import Derived.Shelf.Strings.Search1
import Derived.Shelf.Strings.Runes
import Derived.WalkSpells
import Derived.Lib.Strings
import Derived.Test.YtnjmhlhlmokjnaaExPWWords
import Derived.Test.YtnjmhlhlmokjnaaExPWLast
import Derived.Test.YtnjmhlhlmokjnaaExPWTab
import Derived.Test.YtnjmhlhlmokjnaaExPWApart
import Derived.Test.YtnjmhlhlmokjnaaExPWFoot
import Derived.Test.YtnjmhlhlmokjnaaExPWKept
import Derived.Test.YtnjmhlhlmokjnaaExPWShare
import Derived.Test.YtnjmhlhlmokjnaaExPWN
import Derived.Test.YtnjmhlhlmokjnaaExPWRepsOne
import Derived.Test.YtnjmhlhlmokjnaaExPWInv
import Derived.Test.YtnjmhlhlmokjnaaExPWMore
namespace Go.Proofs.Ytnjmhlhlmokjnaa.G
open Go.RowKit Go.Proofs.YtnjmhlhlmokjnaaW.PrintWords Go.Proofs.YtnjmhlhlmokjnaaW.PrintLast Go.Proofs.YtnjmhlhlmokjnaaW.PrintMore
attribute [local go_sem] max2_int min2_int max_two min_two max_three min_three max_four min_four
set_option linter.unusedVariables false
set_option linter.unusedSimpArgs false
def errW : Option Int → Value
  | none => .nilIface
  | some c => .iface 0 (.int .i64 c)
theorem errW_none : errW none = .nilIface := rfl
theorem errW_some (c : Int) : errW (some c) = .iface 0 (.int .i64 c) := rfl
theorem info9 : (Try.prog.info? 9).map (fun i => (i.zero, i.size, i.bytes)) = some (some (.string ⟨#[]⟩), 1, 16) := by kernel_rfl
theorem info32 : (Try.prog.info? 32).map (fun i => (i.zero, i.size, i.bytes)) = some (some (.agg #[(.string ⟨#[]⟩), (.slice none 0 0), (.slice none 0 0), (.string ⟨#[]⟩), (.bool false)]), 5, 88) := by kernel_rfl
theorem info55 : (Try.prog.info? 55).map (fun i => (i.zero, i.size, i.bytes)) = some (some (.agg #[(.int .i64 0), (.string ⟨#[]⟩)]), 2, 24) := by kernel_rfl
structure S32 where
  f0 : ByteArray
  f1 : (List ByteArray)
  f2 : (List ByteArray)
  f3 : ByteArray
  f4 : Bool
def z32 : S32 := ⟨(⟨#[]⟩ : ByteArray), ([] : List ByteArray), ([] : List ByteArray), (⟨#[]⟩ : ByteArray), false⟩
def k32 : Kd S32 := Kd.iso (Kd.pair Kd.string (Kd.pair (Kd.slice 9 Kd.string) (Kd.pair (Kd.slice 9 Kd.string) (Kd.pair Kd.string Kd.bool)))) (fun x : S32 => (x.f0, x.f1, x.f2, x.f3, x.f4))
theorem k32_open {w : World} {x : S32} {cs : List Value} (h : k32.K w x cs) : ∃ A1 c1 A2 c2, cs = [.string x.f0, .slice A1 x.f1.length c1, .slice A2 x.f2.length c2, .string x.f3, .bool x.f4] ∧ x.f1.length ≤ c1 ∧ Kd.string.C w A1 x.f1.length x.f1 ∧ x.f2.length ≤ c2 ∧ Kd.string.C w A2 x.f2.length x.f2 := by
  obtain ⟨_, _, rfl, rfl, ⟨_, _, rfl, ⟨A1, c1, rfl, l1, g1⟩, ⟨_, _, rfl, ⟨A2, c2, rfl, l2, g2⟩, ⟨_, _, rfl, rfl, rfl⟩⟩⟩⟩ := h
  exact ⟨A1, c1, A2, c2, rfl, l1, g1, l2, g2⟩
theorem k32_openM {w : World} {base : Nat} {ok : Nat → Prop} {x : S32} {cs : List Value} (h : k32.M w base ok x cs) : ∃ v1 v2, cs = [.string x.f0, v1, v2, .string x.f3, .bool x.f4] ∧ Kd.string.R 9 w base ok v1 x.f1 ∧ Kd.string.R 9 w base ok v2 x.f2 := by
  obtain ⟨_, _, rfl, rfl, ⟨_, _, rfl, ⟨v1, rfl, g1⟩, ⟨_, _, rfl, ⟨v2, rfl, g2⟩, ⟨_, _, rfl, rfl, rfl⟩⟩⟩⟩ := h
  exact ⟨v1, v2, rfl, g1, g2⟩
theorem k32_mkM (w : World) (base : Nat) (ok : Nat → Prop) (x : S32) {v1 : Value} (g1 : Kd.string.R 9 w base ok v1 x.f1) {v2 : Value} (g2 : Kd.string.R 9 w base ok v2 x.f2) : k32.M w base ok x [.string x.f0, v1, v2, .string x.f3, .bool x.f4] := ⟨[.string x.f0], [v1, v2, .string x.f3, .bool x.f4], rfl, rfl, ⟨[v1], [v2, .string x.f3, .bool x.f4], rfl, ⟨v1, rfl, g1⟩, ⟨[v2], [.string x.f3, .bool x.f4], rfl, ⟨v2, rfl, g2⟩, ⟨[.string x.f3], [.bool x.f4], rfl, rfl, rfl⟩⟩⟩⟩
def rd_T32 (xs : List S32) (i : Int) : S32 := xs.getD i.toNat z32
theorem at_T32 {w : World} {A : Option Addr} {n : Nat} {xs : List S32} (h : Kd.C k32 w A n xs) (i : Int) (h0 : 0 ≤ i) (h1 : i < n) : ∃ ad A1 c1 A2 c2, A = some ad ∧ w.cell? (ad.add (i.toNat * 5)) = some (.string (rd_T32 xs i).f0) ∧ w.cell? ⟨(ad.add (i.toNat * 5)).block, (ad.add (i.toNat * 5)).off + 1, none⟩ = some (.slice A1 (rd_T32 xs i).f1.length c1) ∧ w.cell? ⟨(ad.add (i.toNat * 5)).block, (ad.add (i.toNat * 5)).off + 2, none⟩ = some (.slice A2 (rd_T32 xs i).f2.length c2) ∧ w.cell? ⟨(ad.add (i.toNat * 5)).block, (ad.add (i.toNat * 5)).off + 3, none⟩ = some (.string (rd_T32 xs i).f3) ∧ w.cell? ⟨(ad.add (i.toNat * 5)).block, (ad.add (i.toNat * 5)).off + 4, none⟩ = some (.bool (rd_T32 xs i).f4) ∧ (rd_T32 xs i).f1.length ≤ c1 ∧ Kd.string.C w A1 (rd_T32 xs i).f1.length (rd_T32 xs i).f1 ∧ (rd_T32 xs i).f2.length ≤ c2 ∧ Kd.string.C w A2 (rd_T32 xs i).f2.length (rd_T32 xs i).f2 := by
  obtain ⟨ad, c, e, _, hK, hc0⟩ := Kd.C_get h z32 i h0 h1
  have hc : ∀ j u, c[j]? = some u → w.cell? (ad.add (i.toNat * 5 + j)) = some u := hc0
  obtain ⟨A1, c1, A2, c2, rfl, l1, g1, l2, g2⟩ := k32_open hK
  exact ⟨ad, A1, c1, A2, c2, e, hc 0 _ rfl, by rw [← add_field _ _ 1 (by omega)]; exact hc 1 _ rfl, by rw [← add_field _ _ 2 (by omega)]; exact hc 2 _ rfl, by rw [← add_field _ _ 3 (by omega)]; exact hc 3 _ rfl, by rw [← add_field _ _ 4 (by omega)]; exact hc 4 _ rfl, l1, g1, l2, g2⟩
structure S55 where
  f0 : Int
  f1 : ByteArray
def z55 : S55 := ⟨(0 : Int), (⟨#[]⟩ : ByteArray)⟩
def k55 : Kd S55 := Kd.iso (Kd.pair (Kd.int .i64) Kd.string) (fun x : S55 => (x.f0, x.f1))
theorem k55_open {w : World} {x : S55} {cs : List Value} (h : k55.K w x cs) : cs = [.int .i64 x.f0, .string x.f1] := by
  obtain ⟨_, _, rfl, rfl, rfl⟩ := h
  exact rfl
theorem k55_openM {w : World} {base : Nat} {ok : Nat → Prop} {x : S55} {cs : List Value} (h : k55.M w base ok x cs) : cs = [.int .i64 x.f0, .string x.f1] := by
  obtain ⟨_, _, rfl, rfl, rfl⟩ := h
  exact rfl
theorem k55_mkM (w : World) (base : Nat) (ok : Nat → Prop) (x : S55)  : k55.M w base ok x [.int .i64 x.f0, .string x.f1] := ⟨[.int .i64 x.f0], [.string x.f1], rfl, rfl, rfl⟩
def rd_T55 (xs : List S55) (i : Int) : S55 := xs.getD i.toNat z55
theorem at_T55 {w : World} {A : Option Addr} {n : Nat} {xs : List S55} (h : Kd.C k55 w A n xs) (i : Int) (h0 : 0 ≤ i) (h1 : i < n) : ∃ ad , A = some ad ∧ w.cell? (ad.add (i.toNat * 2)) = some (.int .i64 (rd_T55 xs i).f0) ∧ w.cell? ⟨(ad.add (i.toNat * 2)).block, (ad.add (i.toNat * 2)).off + 1, none⟩ = some (.string (rd_T55 xs i).f1) := by
  obtain ⟨ad, c, e, _, hK, hc0⟩ := Kd.C_get h z55 i h0 h1
  have hc : ∀ j u, c[j]? = some u → w.cell? (ad.add (i.toNat * 2 + j)) = some u := hc0
  obtain rfl := k55_open hK
  exact ⟨ad, e, hc 0 _ rfl, by rw [← add_field _ _ 1 (by omega)]; exact hc 1 _ rfl⟩
structure S70 where
  f0 : ByteArray
  f1 : (List ByteArray)
  f2 : (List ByteArray)
  f3 : ByteArray
  f4 : Bool
def z70 : S70 := ⟨(⟨#[]⟩ : ByteArray), ([] : List ByteArray), ([] : List ByteArray), (⟨#[]⟩ : ByteArray), false⟩
def k70 : Kd S70 := Kd.iso (Kd.pair Kd.string (Kd.pair (Kd.slice 9 Kd.string) (Kd.pair (Kd.slice 9 Kd.string) (Kd.pair Kd.string Kd.bool)))) (fun x : S70 => (x.f0, x.f1, x.f2, x.f3, x.f4))
theorem k70_open {w : World} {x : S70} {cs : List Value} (h : k70.K w x cs) : ∃ A1 c1 A2 c2, cs = [.string x.f0, .slice A1 x.f1.length c1, .slice A2 x.f2.length c2, .string x.f3, .bool x.f4] ∧ x.f1.length ≤ c1 ∧ Kd.string.C w A1 x.f1.length x.f1 ∧ x.f2.length ≤ c2 ∧ Kd.string.C w A2 x.f2.length x.f2 := by
  obtain ⟨_, _, rfl, rfl, ⟨_, _, rfl, ⟨A1, c1, rfl, l1, g1⟩, ⟨_, _, rfl, ⟨A2, c2, rfl, l2, g2⟩, ⟨_, _, rfl, rfl, rfl⟩⟩⟩⟩ := h
  exact ⟨A1, c1, A2, c2, rfl, l1, g1, l2, g2⟩
def rd_T70 (xs : List S70) (i : Int) : S70 := xs.getD i.toNat z70
theorem at_T70 {w : World} {A : Option Addr} {n : Nat} {xs : List S70} (h : Kd.C k70 w A n xs) (i : Int) (h0 : 0 ≤ i) (h1 : i < n) : ∃ ad A1 c1 A2 c2, A = some ad ∧ w.cell? (ad.add (i.toNat * 5)) = some (.string (rd_T70 xs i).f0) ∧ w.cell? ⟨(ad.add (i.toNat * 5)).block, (ad.add (i.toNat * 5)).off + 1, none⟩ = some (.slice A1 (rd_T70 xs i).f1.length c1) ∧ w.cell? ⟨(ad.add (i.toNat * 5)).block, (ad.add (i.toNat * 5)).off + 2, none⟩ = some (.slice A2 (rd_T70 xs i).f2.length c2) ∧ w.cell? ⟨(ad.add (i.toNat * 5)).block, (ad.add (i.toNat * 5)).off + 3, none⟩ = some (.string (rd_T70 xs i).f3) ∧ w.cell? ⟨(ad.add (i.toNat * 5)).block, (ad.add (i.toNat * 5)).off + 4, none⟩ = some (.bool (rd_T70 xs i).f4) ∧ (rd_T70 xs i).f1.length ≤ c1 ∧ Kd.string.C w A1 (rd_T70 xs i).f1.length (rd_T70 xs i).f1 ∧ (rd_T70 xs i).f2.length ≤ c2 ∧ Kd.string.C w A2 (rd_T70 xs i).f2.length (rd_T70 xs i).f2 := by
  obtain ⟨ad, c, e, _, hK, hc0⟩ := Kd.C_get h z70 i h0 h1
  have hc : ∀ j u, c[j]? = some u → w.cell? (ad.add (i.toNat * 5 + j)) = some u := hc0
  obtain ⟨A1, c1, A2, c2, rfl, l1, g1, l2, g2⟩ := k70_open hK
  exact ⟨ad, A1, c1, A2, c2, e, hc 0 _ rfl, by rw [← add_field _ _ 1 (by omega)]; exact hc 1 _ rfl, by rw [← add_field _ _ 2 (by omega)]; exact hc 2 _ rfl, by rw [← add_field _ _ 3 (by omega)]; exact hc 3 _ rfl, by rw [← add_field _ _ 4 (by omega)]; exact hc 4 _ rfl, l1, g1, l2, g2⟩
end Go.Proofs.Ytnjmhlhlmokjnaa.G
namespace Go.Proofs.Ytnjmhlhlmokjnaa.G
open Go.RowKit Go.Proofs.YtnjmhlhlmokjnaaW.PrintWords Go.Proofs.YtnjmhlhlmokjnaaW.PrintLast
set_option linter.unusedVariables false
set_option linter.unusedSimpArgs false
def Like (u u' : Value) : Prop := u' = u ∨ (∃ a b, u = .string a ∧ u' = .string b) ∨ (∃ k a b, u = .int k a ∧ u' = .int k b) ∨ (∃ a b, u = .bool a ∧ u' = .bool b)
theorem Like.refl (u : Value) : Like u u := .inl rfl
theorem Like.str (a b : ByteArray) : Like (.string a) (.string b) := .inr (.inl ⟨a, b, rfl, rfl⟩)
theorem Like.int (k : IntKind) (a b : Int) : Like (.int k a) (.int k b) := .inr (.inr (.inl ⟨k, a, b, rfl, rfl⟩))
theorem Like.bool (a b : Bool) : Like (.bool a) (.bool b) := .inr (.inr (.inr ⟨a, b, rfl, rfl⟩))
theorem Like.trans {a b c : Value} (h : Like a b) (k : Like b c) : Like a c := by
  rcases h with rfl | ⟨x, y, rfl, rfl⟩ | ⟨q, x, y, rfl, rfl⟩ | ⟨x, y, rfl, rfl⟩
  · exact k
  · rcases k with rfl | ⟨x', y', e, rfl⟩ | ⟨q, x', y', e, rfl⟩ | ⟨x', y', e, rfl⟩
    · exact Like.str _ _
    · exact Like.str _ _
    · cases e
    · cases e
  · rcases k with rfl | ⟨x', y', e, rfl⟩ | ⟨q, x', y', e, rfl⟩ | ⟨x', y', e, rfl⟩
    · exact Like.int _ _ _
    · cases e
    · injection e with e1 e2
      subst e1
      exact Like.int _ _ _
    · cases e
  · rcases k with rfl | ⟨x', y', e, rfl⟩ | ⟨q, x', y', e, rfl⟩ | ⟨x', y', e, rfl⟩
    · exact Like.bool _ _
    · cases e
    · cases e
    · exact Like.bool _ _
theorem Like.of_string {a : ByteArray} {u : Value} (h : Like (.string a) u) : ∃ b, u = .string b := by
  rcases h with rfl | ⟨x, y, _, rfl⟩ | ⟨q, x, y, e, _⟩ | ⟨x, y, e, _⟩
  · exact ⟨_, rfl⟩
  · exact ⟨_, rfl⟩
  · cases e
  · cases e
theorem Like.of_bool {a : Bool} {u : Value} (h : Like (.bool a) u) : ∃ b, u = .bool b := by
  rcases h with rfl | ⟨x, y, e, _⟩ | ⟨q, x, y, e, _⟩ | ⟨x, y, _, rfl⟩
  · exact ⟨_, rfl⟩
  · cases e
  · cases e
  · exact ⟨_, rfl⟩
theorem Like.of_slice {A : Option Addr} {n c : Nat} {u : Value} (h : Like (.slice A n c) u) : u = .slice A n c := by
  rcases h with rfl | ⟨x, y, e, _⟩ | ⟨q, x, y, e, _⟩ | ⟨x, y, e, _⟩
  · rfl
  · cases e
  · cases e
  · cases e
structure Marks (ok : Nat → Prop) (w w' : World) : Prop where
  os : w'.os = w.os
  tape : w'.tape = w.tape
  output : w'.output = w.output
  size : w.heap.size ≤ w'.heap.size
  other : ∀ k, k < w.heap.size → ¬ ok k → w'.heap[k]? = w.heap[k]?
  cells : ∀ (k : Nat) (cs : Array Value) (t : TypeId) (fr : Nat × Nat), w.heap[k]? = some (Obj.cells cs t fr) → ∃ cs' : Array Value, w'.heap[k]? = some (Obj.cells cs' t fr) ∧ cs'.size = cs.size ∧ ∀ (j : Nat) (u : Value), cs[j]? = some u → ∃ u' : Value, cs'[j]? = some u' ∧ Like u u'
section
variable {ok ok' : Nat → Prop} {w w' w2 : World}
theorem Marks.refl (ok : Nat → Prop) (w : World) : Marks ok w w := ⟨rfl, rfl, rfl, Nat.le_refl _, fun _ _ _ => rfl, fun k cs t fr h => ⟨cs, h, rfl, fun j u hu => ⟨u, hu, .refl u⟩⟩⟩
theorem Marks.trans (h : Marks ok w w') (k : Marks ok w' w2) : Marks ok w w2 :=
  ⟨k.os.trans h.os, k.tape.trans h.tape, k.output.trans h.output, Nat.le_trans h.size k.size, fun i hi hn => (k.other i (Nat.lt_of_lt_of_le hi h.size) hn).trans (h.other i hi hn), fun i cs t fr hc => by
    obtain ⟨cs1, h1, h2, h3⟩ := h.cells i cs t fr hc
    obtain ⟨cs2, k1, k2, k3⟩ := k.cells i cs1 t fr h1
    refine ⟨cs2, k1, k2.trans h2, fun j u hu => ?_⟩
    obtain ⟨u1, e1, l1⟩ := h3 j u hu
    obtain ⟨u2, e2, l2⟩ := k3 j u1 e1
    exact ⟨u2, e2, l1.trans l2⟩⟩
theorem Marks.mono (h : Marks ok w w') (hk : ∀ k, ok k → ok' k) : Marks ok' w w' := ⟨h.os, h.tape, h.output, h.size, fun i hi hn => h.other i hi (fun hx => hn (hk i hx)), h.cells⟩
theorem Marks.of_below (h : Below w.heap.size w w') : Marks ok w w' := by
  refine ⟨h.os, h.tape, h.output, h.size, fun k hk _ => h.block k hk, fun k cs t fr hc => ⟨cs, (h.block k ?_).trans hc, rfl, fun j u hu => ⟨u, hu, .refl u⟩⟩⟩
  exact (Array.getElem?_eq_some_iff.1 hc).1
theorem Marks.below (h : Marks ok w w') (k : Below w'.heap.size w' w2) : Marks ok w w2 := h.trans (.of_below k)
theorem Marks.set {g j : Nat} {cs : Array Value} {t : TypeId} {fr : Nat × Nat} {u u' : Value} (hb : w.heap[g]? = some (.cells cs t fr)) (hu : cs[j]? = some u) (hl : Like u u') (hg : ok g) : Marks ok w (w.setCell ⟨g, j, none⟩ u') := by
  have hgs : g < w.heap.size := (Array.getElem?_eq_some_iff.1 hb).1
  refine ⟨rfl, rfl, rfl, by simp [World.setCell], fun k hk hn => Below.heap_setCell w ⟨g, j, none⟩ u' k (fun e => hn (e ▸ hg)), fun k cs1 t1 fr1 hc => ?_⟩
  by_cases hk : k = g
  · subst hk
    rw [hb] at hc
    injection hc with hc
    injection hc with h1 h2 h3
    subst h1 h2 h3
    refine ⟨cs.setIfInBounds j u', by simp [World.setCell, Array.getElem?_modify, hb], by simp, fun i v hv => ?_⟩
    by_cases hij : i = j
    · subst hij
      rw [hu] at hv
      obtain rfl := Option.some.inj hv
      have hlt := (Array.getElem?_eq_some_iff.1 hu).1
      exact ⟨u', by simp [hlt], hl⟩
    · exact ⟨v, by simp [Array.getElem?_setIfInBounds, Ne.symm hij, hv], .refl v⟩
  · refine ⟨cs1, ?_, rfl, fun j u hu => ⟨u, hu, .refl u⟩⟩
    exact (Below.heap_setCell w ⟨g, j, none⟩ u' k hk).trans hc
theorem Marks.to_below {B : Nat} {w0 : World} (h : Below B w0 w) (hB : B ≤ w.heap.size) (k : Marks ok w w') (hk : ∀ i, ok i → B ≤ i) : Below B w0 w' :=
  ⟨k.os.trans h.os, k.tape.trans h.tape, k.output.trans h.output, Nat.le_trans h.size k.size, fun i hi => (k.other i (by omega) (fun e => by have := hk i e; omega)).trans (h.block i hi)⟩
theorem cell_blk {g j : Nat} {u : Value} {cs : Array Value} {t : TypeId} (hb : w.heap[g]? = some (.cells cs t (0, 0))) (h : w.cell? ⟨g, j, none⟩ = some u) : cs[j]? = some u := by
  rw [cell_of_row w g j cs t (0, 0) hb] at h
  exact h
theorem Marks.store {g j : Nat} {cs : Array Value} {t : TypeId} {u u' : Value} (h : Marks ok w w') (hb : w'.heap[g]? = some (.cells cs t (0, 0))) (hu : w'.cell? ⟨g, j, none⟩ = some u) (hl : Like u u') (hg : ok g) : Marks ok w (w'.setCell ⟨g, j, none⟩ u') :=
  h.trans (.set hb (cell_blk hb hu) hl hg)
end
def Likes (cs cs' : List Value) : Prop := cs'.length = cs.length ∧ ∀ (j : Nat) (u : Value), cs[j]? = some u → ∃ u' : Value, cs'[j]? = some u' ∧ Like u u'
theorem Likes.one {u : Value} {cs' : List Value} (h : Likes [u] cs') : ∃ u', cs' = [u'] ∧ Like u u' := by
  obtain ⟨hl, h⟩ := h
  match cs', hl with
  | [v], _ =>
    obtain ⟨u', e, hk⟩ := h 0 u rfl
    obtain rfl := Option.some.inj e
    exact ⟨_, rfl, hk⟩
theorem Likes.split {a b cs' : List Value} (h : Likes (a ++ b) cs') : ∃ a' b', cs' = a' ++ b' ∧ Likes a a' ∧ Likes b b' := by
  obtain ⟨hl, h⟩ := h
  rw [List.length_append] at hl
  refine ⟨cs'.take a.length, cs'.drop a.length, (List.take_append_drop _ _).symm, ⟨by rw [List.length_take]; omega, fun j u hu => ?_⟩, ⟨by rw [List.length_drop]; omega, fun j u hu => ?_⟩⟩
  · have hj := (List.getElem?_eq_some_iff.1 hu).1
    obtain ⟨u', e, k⟩ := h j u (by rw [List.getElem?_append_left hj]; exact hu)
    exact ⟨u', by rw [List.getElem?_take, if_pos hj]; exact e, k⟩
  · obtain ⟨u', e, k⟩ := h (a.length + j) u (by rw [List.getElem?_append_right (by omega)]; simpa using hu)
    exact ⟨u', by rw [List.getElem?_drop]; exact e, k⟩
def Marky {α σ : Type} (d : Kd α) (sh : α → σ) : Prop :=
  ∀ {w w' : World} {base : Nat} {ok ok' : Nat → Prop} {x : α} {cs cs' : List Value}, d.M w base ok x cs → Marks ok' w w' → Likes cs cs' → ∃ x', d.M w' base ok x' cs' ∧ sh x' = sh x
theorem marky_string : Marky Kd.string (fun _ => ()) := by
  intro w w' base ok ok' x cs cs' h hm hl
  obtain rfl : cs = [.string x] := h
  obtain ⟨u, rfl, hu⟩ := hl.one
  obtain ⟨b, rfl⟩ := hu.of_string
  exact ⟨b, rfl, rfl⟩
theorem marky_bool : Marky Kd.bool (fun _ => ()) := by
  intro w w' base ok ok' x cs cs' h hm hl
  obtain rfl : cs = [.bool x] := h
  obtain ⟨u, rfl, hu⟩ := hl.one
  obtain ⟨b, rfl⟩ := hu.of_bool
  exact ⟨b, rfl, rfl⟩
theorem marky_pair {α β σ τ : Type} {a : Kd α} {b : Kd β} {sa : α → σ} {sb : β → τ} (ha : Marky a sa) (hb : Marky b sb) : Marky (Kd.pair a b) (fun x => (sa x.1, sb x.2)) := by
  intro w w' base ok ok' x cs cs' h hm hl
  obtain ⟨c0, c1, rfl, h0, h1⟩ := h
  obtain ⟨d0, d1, rfl, l0, l1⟩ := hl.split
  obtain ⟨x0, k0, e0⟩ := ha h0 hm l0
  obtain ⟨x1, k1, e1⟩ := hb h1 hm l1
  exact ⟨(x0, x1), ⟨d0, d1, rfl, k0, k1⟩, Prod.ext e0 e1⟩
theorem marky_iso {α β σ τ : Type} {d : Kd α} {sa : α → σ} (h : Marky d sa) (f : β → α) (fi : α → β) (hf : ∀ x, f (fi x) = x) (sb : β → τ) (hs : ∀ x y, sa (f x) = sa (f y) → sb x = sb y) : Marky (Kd.iso d f) sb := by
  intro w w' base ok ok' x cs cs' hM hm hl
  obtain ⟨y, k, e⟩ := h (x := f x) hM hm hl
  exact ⟨fi y, by show d.M w' base ok (f (fi y)) cs'; rw [hf]; exact k, hs _ _ (by rw [hf]; exact e)⟩
theorem choose_list {α : Type} : ∀ (xs : List α) (Q : Nat → α → α → Prop), (∀ j x, xs[j]? = some x → ∃ x', Q j x x') → ∃ xs' : List α, xs'.length = xs.length ∧ ∀ j x, xs[j]? = some x → ∃ x', xs'[j]? = some x' ∧ Q j x x'
  | [], Q, h => ⟨[], rfl, fun j x hx => by cases hx⟩
  | a :: l, Q, h => by
    obtain ⟨a', ha⟩ := h 0 a rfl
    obtain ⟨l', hl, hq⟩ := choose_list l (fun j => Q (j + 1)) (fun j x hx => h (j + 1) x hx)
    refine ⟨a' :: l', by simp [hl], fun j x hx => ?_⟩
    cases j with
    | zero =>
      obtain rfl := Option.some.inj hx
      exact ⟨a', rfl, ha⟩
    | succ j => exact hq j x hx
theorem reps_marks {α σ : Type} {d : Kd α} {sh : α → σ} (hd : Marky d sh) {w w' : World} {base : Nat} {ok ok' : Nat → Prop} (hm : Marks ok' w w')
    {xs : List α} {cs cs' : List Value} (h : Reps (d.M w base ok) d.sz xs cs) (hl : Likes cs cs') : ∃ xs', Reps (d.M w' base ok) d.sz xs' cs' ∧ xs'.map sh = xs.map sh := by
  have hex : ∀ (j : Nat) (x : α), xs[j]? = some x → ∃ x', d.M w' base ok x' ((cs'.drop (j * d.sz)).take d.sz) ∧ sh x' = sh x := by
    intro j x hx
    have hlt := (List.getElem?_eq_some_iff.1 hx).1
    have hLk : Likes ((cs.drop (j * d.sz)).take d.sz) ((cs'.drop (j * d.sz)).take d.sz) := by
      refine ⟨by simp only [List.length_take, List.length_drop]; rw [hl.1], fun i u hu => ?_⟩
      rw [List.getElem?_take] at hu
      split at hu
      · rename_i hi
        rw [List.getElem?_drop] at hu
        obtain ⟨u', e, k⟩ := hl.2 _ u hu
        exact ⟨u', by rw [List.getElem?_take, if_pos hi, List.getElem?_drop]; exact e, k⟩
      · cases hu
    exact hd (h.2 j x hx) hm hLk
  obtain ⟨xs', hlen, hq⟩ := choose_list xs (fun j x x' => d.M w' base ok x' ((cs'.drop (j * d.sz)).take d.sz) ∧ sh x' = sh x) hex
  refine ⟨xs', ⟨(hl.1.trans h.1).trans (by rw [hlen]), fun j x' hx' => ?_⟩, ?_⟩
  · have hlt := (List.getElem?_eq_some_iff.1 hx').1
    obtain ⟨y, hy, k⟩ := hq j xs[j] (List.getElem?_eq_getElem (by omega))
    rw [hx'] at hy
    obtain rfl := Option.some.inj hy
    exact k.1
  · apply List.ext_getElem?
    intro j
    rw [List.getElem?_map, List.getElem?_map]
    cases hx : xs[j]? with
    | none =>
      have : xs.length ≤ j := List.getElem?_eq_none_iff.1 hx
      rw [List.getElem?_eq_none_iff.2 (by omega)]
    | some x =>
      obtain ⟨y, hy, k⟩ := hq j x hx
      rw [hy]
      exact congrArg some k.2
theorem R_marks {α σ : Type} {d : Kd α} {sh : α → σ} (hd : Marky d sh) {e : Nat} {w w' : World} {base : Nat} {ok ok' : Nat → Prop} {v : Value} {xs : List α} (h : d.R e w base ok v xs) (hm : Marks ok' w w') :
    ∃ xs', d.R e w' base ok v xs' ∧ xs'.map sh = xs.map sh := by
  obtain ⟨h0, inner, ho, hr⟩ := h
  obtain ⟨hl, hv⟩ := ho
  rcases hv with ⟨rfl, hn⟩ | ⟨g, cap, cur, rfl, hg, hh, hn, hc, hs, ht⟩
  · have hx : xs = [] := List.eq_nil_of_length_eq_zero hn
    subst hx
    exact ⟨[], Kd.R_nil _ _ _ _ _, rfl⟩
  · obtain ⟨cur', hh', hs', hk⟩ := hm.cells _ _ _ _ hh
    have hLk : Likes inner (cur'.toList.take (xs.length * d.sz)) := by
      refine ⟨by
        have := Nat.mul_le_mul_right d.sz hn
        rw [List.length_take, hl]
        refine Nat.min_eq_left ?_
        show _ ≤ cur'.size
        omega, fun j u hu => ?_⟩
      rw [← ht, List.getElem?_take] at hu
      split at hu
      · rename_i hj
        rw [Array.getElem?_toList] at hu
        obtain ⟨u', e, l⟩ := hk j u hu
        exact ⟨u', by rw [List.getElem?_take, if_pos hj, Array.getElem?_toList]; exact e, l⟩
      · cases hu
    obtain ⟨xs', hr', e⟩ := reps_marks hd hm hr hLk
    have hxl : xs'.length = xs.length := by
      have := congrArg List.length e
      simpa using this
    refine ⟨xs', ⟨?_, cur'.toList.take (xs.length * d.sz), ⟨?_, .inr ⟨g, cap, cur', ?_, hg, hh', ?_, hc, by rw [hs', hs], ?_⟩⟩, ?_⟩, e⟩
    · exact h0
    · rw [hLk.1, hl, hxl]
    · rw [hxl]
    · rw [hxl]; exact hn
    · rw [hxl]
    · exact hr'
theorem marky_slice {α σ : Type} {d : Kd α} {sh : α → σ} (hd : Marky d sh) (e : Nat) : Marky (Kd.slice e d) (List.map sh) := by
  intro w w' base ok ok' x cs cs' h hm hl
  obtain ⟨v, rfl, hR⟩ := h
  obtain ⟨u, rfl, hu⟩ := hl.one
  obtain ⟨x', hR', e'⟩ := R_marks hd hR hm
  obtain ⟨A, c, rfl⟩ := Kd.R_slice hR
  obtain rfl := hu.of_slice
  exact ⟨x', ⟨_, rfl, hR'⟩, e'⟩
theorem R_marks_str {e : Nat} {w w' : World} {base : Nat} {ok ok' : Nat → Prop} {v : Value} {xs : List ByteArray} (h : Kd.string.R e w base ok v xs) (hm : Marks ok' w w') :
    ∃ xs', Kd.string.R e w' base ok v xs' ∧ xs'.length = xs.length := by
  obtain ⟨xs', h1, h2⟩ := R_marks marky_string h hm
  exact ⟨xs', h1, by have := congrArg List.length h2; simpa using this⟩
end Go.Proofs.Ytnjmhlhlmokjnaa.G
namespace Go.Proofs
open Go.Shelf
def Try.lays119_ren : Go.Shelf.Ren := ⟨fun | 119 => 79 | n => n, fun | 21 => 21 | 4 => 4 | n => n, fun | n => n⟩
theorem Try.lays119 : Go.Proofs.Lays.n119 Try.prog Try.lays119_ren := {
  mixed := by kernel_rfl
  f119 := Try.func79.trans (congrArg some (by kernel_rfl))
  t4 := Try.underlying4
  a4 := Try.isAgg4
  z4 := Try.sizeOf4
  v4 := Try.zeroValue4
  t21 := Try.underlying21
  a21 := Try.isAgg21
  z21 := Try.sizeOf21
  v21 := Try.zeroValue21 }
theorem Try.utf8_ValidRune (r : Int) (w : World) :
    Calls Try.prog 79 #[.int .i32 r] w fun e w' => e = .returned (.bool (Lib.validRune r)) ∧ w' = w := Any.utf8_ValidRune Try.lays119 r w
def Try.lays137_ren : Go.Shelf.Ren := ⟨fun | 137 => 78 | 217 => 82 | 266 => 83 | n => n, fun | 9 => 9 | 5 => 5 | 3 => 3 | n => n, fun | n => n⟩
theorem Try.lays137 : Go.Proofs.Lays.n137 Try.prog Try.lays137_ren := {
  mixed := by kernel_rfl
  f137 := Try.func78.trans (congrArg some (by kernel_rfl))
  f217 := Try.func82.trans (congrArg some (by kernel_rfl))
  f266 := Try.func83.trans (congrArg some (by kernel_rfl))
  t3 := Try.underlying3
  a3 := Try.isAgg3
  z3 := Try.sizeOf3
  v3 := Try.zeroValue3
  t5 := Try.underlying5
  a5 := Try.isAgg5
  z5 := Try.sizeOf5
  v5 := Try.zeroValue5
  t9 := Try.underlying9
  a9 := Try.isAgg9
  z9 := Try.sizeOf9
  v9 := Try.zeroValue9 }
open Go.RowKit in
theorem Try.strings_IndexByte (s : ByteArray) (c : Int) (w : World) :
    Calls Try.prog 78 #[.string s, .int .u8 c] w fun e w' => e = .returned (.int .i64 (Lib.indexByte s.data.toList c.toNat.toUInt8)) ∧ w' = w := Any.strings_IndexByte Try.lays137 s c w
def Try.lays151_ren : Go.Shelf.Ren := ⟨fun | 151 => 74 | 152 => 77 | 137 => 78 | 119 => 79 | 224 => 80 | 225 => 81 | 217 => 82 | 266 => 83 | n => n, fun | 9 => 9 | 21 => 21 | 4 => 4 | 3 => 3 | 5 => 5 | 0 => 0 | 46 => 92 | n => n, fun | n => n⟩
theorem Try.lays151 : Go.Proofs.Lays.n151 Try.prog Try.lays151_ren := {
  mixed := by kernel_rfl
  f119 := Try.func79.trans (congrArg some (by kernel_rfl))
  f137 := Try.func78.trans (congrArg some (by kernel_rfl))
  f151 := Try.func74.trans (congrArg some (by kernel_rfl))
  f152 := Try.func77.trans (congrArg some (by kernel_rfl))
  f217 := Try.func82.trans (congrArg some (by kernel_rfl))
  f224 := Try.func80.trans (congrArg some (by kernel_rfl))
  f225 := Try.func81.trans (congrArg some (by kernel_rfl))
  f266 := Try.func83.trans (congrArg some (by kernel_rfl))
  t0 := Try.underlying0
  a0 := Try.isAgg0
  z0 := Try.sizeOf0
  v0 := Try.zeroValue0
  t3 := Try.underlying3
  a3 := Try.isAgg3
  z3 := Try.sizeOf3
  v3 := Try.zeroValue3
  t4 := Try.underlying4
  a4 := Try.isAgg4
  z4 := Try.sizeOf4
  v4 := Try.zeroValue4
  t5 := Try.underlying5
  a5 := Try.isAgg5
  z5 := Try.sizeOf5
  v5 := Try.zeroValue5
  t9 := Try.underlying9
  a9 := Try.isAgg9
  z9 := Try.sizeOf9
  v9 := Try.zeroValue9
  t21 := Try.underlying21
  a21 := Try.isAgg21
  z21 := Try.sizeOf21
  v21 := Try.zeroValue21
  t46 := Try.underlying92
  a46 := Try.isAgg92
  z46 := Try.sizeOf92
  v46 := Try.zeroValue92 }
open Go.RowKit Go.Lib in
theorem Try.strings_ContainsRune_ascii (s : ByteArray) (r : Int) (w : World) (h0 : 0 ≤ r) (h1 : r < 128) :
    Calls Try.prog 74 #[.string s, .int .i32 r] w fun e w' => e = .returned (.bool (decide (0 ≤ Lib.indexByte s.data.toList r.toNat.toUInt8))) ∧ w' = w := Any.strings_ContainsRune_ascii Try.lays151 s r w h0 h1
end Go.Proofs
namespace Go.Proofs.Ytnjmhlhlmokjnaa.G
open Go.RowKit Go.Proofs.YtnjmhlhlmokjnaaW.PrintWords
set_option maxHeartbeats 800000 in
set_option maxRecDepth 100000 in
theorem indexRune_high (r : Int) (h0 : 128 ≤ r) (h1 : r ≤ 255) (w : World) :
    Calls Try.prog 77 #[.string ⟨#[45, 95, 46, 43]⟩, .int .i32 r] w fun e w' => e = .returned (.int .i64 (-1)) ∧ Drawn0 w w' := by
  have hv : Lib.validRune r = true := by
    unfold Lib.validRune
    simp
    omega
  have hd : decide (r < 128) = false := by simp; omega
  obtain ⟨x, y, he, hy⟩ : ∃ x y : UInt8, Utf8.encode r = ⟨#[x, y]⟩ ∧ 128 ≤ y.toNat := by
    obtain ⟨n, rfl⟩ : ∃ n : Nat, r = n := ⟨r.toNat, by omega⟩
    have hvv : Utf8.valid (n : Int) = true := by
      unfold Utf8.valid
      simp
      omega
    refine ⟨UInt8.ofNat (0xC0 + n / 64), UInt8.ofNat (0x80 + n % 64), ?_, ?_⟩
    · simp only [Utf8.encode, hvv, if_true, Int.toNat_natCast]
      rw [if_neg (by omega), if_pos (by omega)]
    · simp
      omega
  have hne : ((95 : Int) != (y.toNat : Int)) = true := by rw [bne_iff_ne]; omega
  have hib : Lib.indexByte [46, 43] y = -1 := by
    have h1 : ((46 : UInt8) == y) = false := by
      rw [beq_eq_false_iff_ne]; rintro rfl; simp at hy
    have h2 : ((43 : UInt8) == y) = false := by
      rw [beq_eq_false_iff_ne]; rintro rfl; simp at hy
    simp [Lib.indexByte, h1, h2]
  have hs2 : 1 < (⟨#[x, y]⟩ : ByteArray).size := (by decide : 1 < 2)
  have hs4 : 1 < (⟨#[45, 95, 46, 43]⟩ : ByteArray).size := by decide
  have hne2 : ((((⟨#[45, 95, 46, 43]⟩ : ByteArray)[1]'hs4).toNat : Int) != (((⟨#[x, y]⟩ : ByteArray)[1]'hs2).toNat : Int)) = true := hne
  have hib2 : Lib.indexByte [46, 43] ((⟨#[x, y]⟩ : ByteArray)[1]'hs2) < 0 := by
    show Lib.indexByte [46, 43] y < 0
    rw [hib]; decide
  clear hne hib
  go_enter Try.func77, Try.ntmps77
  go_wp2_with (go_at_call 79; refine (Try.utf8_ValidRune _ _).mono ?_; rintro e w' ⟨rfl, hw'⟩; subst hw')
  go_step3
  go_wp2_with fail
  refine wp_loop_rounds 1 ?_
  rw [rounds_succ]
  go_wp2_with fail
  go_step3
  go_wp2_with fail
  go_quiet (fail)
  generalize hq1 : w'.drewN nq = w1
  have D1 : Drawn0 w' w1 := ⟨⟨nq, hq1.symm⟩⟩
  clear hq1
  go_wp2_with fail
  have hw2 : IntKind.i64.wrap 2 = 2 := by decide
  go_quiet ((go_at_call 78; exact Calls.quiet_of_same (Try.strings_IndexByte _ _ _)))
  generalize hq2 : w1.drewN nq = w2
  have D2 : Drawn0 w1 w2 := ⟨⟨nq, hq2.symm⟩⟩
  clear hq2
  go_wp2_with fail
  repeat (first | rw [Exit.noGoto_ret] | simp only [Exit.inBlock, Exit.then])
  refine bodyPost_ret (results_tmp rfl _ _ _) rfl ?_
  refine ⟨rfl, ?_⟩
  obtain ⟨⟨n1, rfl⟩⟩ := D1
  obtain ⟨⟨n2, rfl⟩⟩ := D2
  exact ⟨⟨n1 + n2, World.drewN_drewN ..⟩⟩
def strings_ContainsRune.f (a0 : ByteArray) (a1 : Int) : Option (Bool) :=
  if a0 = ⟨#[45, 95, 46, 43]⟩ ∧ 0 ≤ a1 ∧ a1 ≤ 255 then some (decide (a1 = 45 ∨ a1 = 95 ∨ a1 = 46 ∨ a1 = 43)) else none
theorem low_tells : ∀ n : Nat, n < 128 → decide (0 ≤ Lib.indexByte [45, 95, 46, 43] n.toUInt8) = decide (n = 45 ∨ n = 95 ∨ n = 46 ∨ n = 43) := by
  decide +kernel
set_option maxHeartbeats 400000 in
theorem strings_ContainsRune.calls (a0 : ByteArray) (a1 : Int) (r : Bool) (w : World) (h : strings_ContainsRune.f a0 a1 = some r) :
    Calls Try.prog 74 #[.string a0, .int .i32 a1] w fun e w' => e = .returned (.bool r) ∧ Drawn0 w w' := by
  unfold strings_ContainsRune.f at h
  split at h
  · rename_i hc
    obtain ⟨rfl, h0, h1⟩ := hc
    injection h with h
    by_cases hl : a1 < 128
    · refine (Try.strings_ContainsRune_ascii _ _ _ h0 hl).mono ?_
      rintro e w' ⟨rfl, rfl⟩
      refine ⟨?_, Drawn0.refl _⟩
      rw [← h]
      obtain ⟨n, rfl⟩ : ∃ n : Nat, a1 = n := ⟨a1.toNat, by omega⟩
      have hn : n < 128 := by omega
      have e1 := low_tells n hn
      have e2 : decide (((n : Int) = 45 ∨ (n : Int) = 95 ∨ (n : Int) = 46 ∨ (n : Int) = 43)) = decide (n = 45 ∨ n = 95 ∨ n = 46 ∨ n = 43) := by
        apply decide_eq_decide.2
        omega
      rw [e2, ← e1]
      rfl
    · have hr : r = false := by
        rw [← h]
        simp
        omega
      subst hr
      clear h
      go_enter Try.func74, Try.ntmps74
      go_wp2_with (go_at_call 77; refine (indexRune_high _ (by omega) (by omega) _).mono ?_; rintro e w' ⟨rfl, hd⟩)
      go_ret
      exact ⟨rfl, by assumption⟩
  · cases h
end Go.Proofs.Ytnjmhlhlmokjnaa.G
namespace Go.Proofs.Ytnjmhlhlmokjnaa.G
open Go.RowKit Go.Proofs.YtnjmhlhlmokjnaaW.PrintWords Go.Proofs.YtnjmhlhlmokjnaaW.PrintLast Go.Proofs.YtnjmhlhlmokjnaaW.PrintMore
attribute [local go_sem] max2_int min2_int max_two min_two max_three min_three max_four min_four
set_option linter.unusedVariables false
set_option linter.unusedSimpArgs false
def impl_digit.f (a0 : Int) : Option (Bool) := if a0 ≥ 48 then (some (decide (a0 ≤ 57))) else (some false)
set_option maxHeartbeats 8000000 in
set_option maxRecDepth 100000 in
theorem impl_digit.calls (a0 : Int) (r : Bool) (w : World) (h : impl_digit.f a0 = some r) :
    Calls Try.prog 73 #[.int .u8 a0] w fun e w' => e = .returned (.bool r) ∧ Drawn0 w w' := by
  have H : (if a0 ≥ 48 then (some (decide (a0 ≤ 57))) else (some false)) = some r := h
  clear h
  by_cases c2 : a0 ≥ 48
  · rw [if_pos c2] at H
    have c2b0 : decide (48 ≤ a0) = true := decide_eq_true c2
    clear c2
    obtain rfl := Option.some.inj H
    go_enter Try.func73, Try.ntmps73
    go_wp2
    go_ret
    exact ⟨by first | rfl | (simp; done) | (simp [*]; done), by repeat (first | exact Drawn0.refl _ | apply Drawn0.step)⟩
  · rw [if_neg c2] at H
    have c2b0 : decide (48 ≤ a0) = false := decide_eq_false c2
    clear c2
    obtain rfl := Option.some.inj H
    go_enter Try.func73, Try.ntmps73
    go_wp2
    go_ret
    exact ⟨by first | rfl | (simp; done) | (simp [*]; done), by repeat (first | exact Drawn0.refl _ | apply Drawn0.step)⟩
end Go.Proofs.Ytnjmhlhlmokjnaa.G
namespace Go.Proofs.Ytnjmhlhlmokjnaa.G
open Go.RowKit Go.Proofs.YtnjmhlhlmokjnaaW.PrintWords Go.Proofs.YtnjmhlhlmokjnaaW.PrintLast Go.Proofs.YtnjmhlhlmokjnaaW.PrintMore
attribute [local go_sem] max2_int min2_int max_two min_two max_three min_three max_four min_four
set_option linter.unusedVariables false
set_option linter.unusedSimpArgs false
def impl_letter.f (a0 : Int) : Option (Bool) := if a0 ≥ 97 then (if a0 ≤ 122 then (some true) else (if a0 ≥ 65 then (some (decide (a0 ≤ 90))) else (some false))) else (if a0 ≥ 65 then (some (decide (a0 ≤ 90))) else (some false))
set_option maxHeartbeats 8000000 in
set_option maxRecDepth 100000 in
theorem impl_letter.calls (a0 : Int) (r : Bool) (w : World) (h : impl_letter.f a0 = some r) :
    Calls Try.prog 72 #[.int .u8 a0] w fun e w' => e = .returned (.bool r) ∧ Drawn0 w w' := by
  have H : (if a0 ≥ 97 then (if a0 ≤ 122 then (some true) else (if a0 ≥ 65 then (some (decide (a0 ≤ 90))) else (some false))) else (if a0 ≥ 65 then (some (decide (a0 ≤ 90))) else (some false))) = some r := h
  clear h
  by_cases c2 : a0 ≥ 97
  · rw [if_pos c2] at H
    have c2b0 : decide (97 ≤ a0) = true := decide_eq_true c2
    clear c2
    by_cases c3 : a0 ≤ 122
    · rw [if_pos c3] at H
      have c3b0 : decide (a0 ≤ 122) = true := decide_eq_true c3
      clear c3
      obtain rfl := Option.some.inj H
      go_enter Try.func72, Try.ntmps72
      go_wp2
      go_ret
      exact ⟨by first | rfl | (simp; done) | (simp [*]; done), by repeat (first | exact Drawn0.refl _ | apply Drawn0.step)⟩
    · rw [if_neg c3] at H
      have c3b0 : decide (a0 ≤ 122) = false := decide_eq_false c3
      clear c3
      by_cases c4 : a0 ≥ 65
      · rw [if_pos c4] at H
        have c4b0 : decide (65 ≤ a0) = true := decide_eq_true c4
        clear c4
        obtain rfl := Option.some.inj H
        go_enter Try.func72, Try.ntmps72
        go_wp2
        go_ret
        exact ⟨by first | rfl | (simp; done) | (simp [*]; done), by repeat (first | exact Drawn0.refl _ | apply Drawn0.step)⟩
      · rw [if_neg c4] at H
        have c4b0 : decide (65 ≤ a0) = false := decide_eq_false c4
        clear c4
        obtain rfl := Option.some.inj H
        go_enter Try.func72, Try.ntmps72
        go_wp2
        go_ret
        exact ⟨by first | rfl | (simp; done) | (simp [*]; done), by repeat (first | exact Drawn0.refl _ | apply Drawn0.step)⟩
  · rw [if_neg c2] at H
    have c2b0 : decide (97 ≤ a0) = false := decide_eq_false c2
    clear c2
    by_cases c5 : a0 ≥ 65
    · rw [if_pos c5] at H
      have c5b0 : decide (65 ≤ a0) = true := decide_eq_true c5
      clear c5
      obtain rfl := Option.some.inj H
      go_enter Try.func72, Try.ntmps72
      go_wp2
      go_ret
      exact ⟨by first | rfl | (simp; done) | (simp [*]; done), by repeat (first | exact Drawn0.refl _ | apply Drawn0.step)⟩
    · rw [if_neg c5] at H
      have c5b0 : decide (65 ≤ a0) = false := decide_eq_false c5
      clear c5
      obtain rfl := Option.some.inj H
      go_enter Try.func72, Try.ntmps72
      go_wp2
      go_ret
      exact ⟨by first | rfl | (simp; done) | (simp [*]; done), by repeat (first | exact Drawn0.refl _ | apply Drawn0.step)⟩
end Go.Proofs.Ytnjmhlhlmokjnaa.G
namespace Go.Proofs.Ytnjmhlhlmokjnaa.G
open Go.RowKit Go.Proofs.YtnjmhlhlmokjnaaW.PrintWords Go.Proofs.YtnjmhlhlmokjnaaW.PrintLast Go.Proofs.YtnjmhlhlmokjnaaW.PrintMore
attribute [local go_sem] max2_int min2_int max_two min_two max_three min_three max_four min_four
set_option linter.unusedVariables false
set_option linter.unusedSimpArgs false
mutual
def impl_NameOk.j0 : Nat → ByteArray → Bool → Option (Bool)
  | 0, _, _ => none
  | k + 1, x0, x17 => if x17 = true then (some false) else (impl_NameOk.l0 k x0 (x0.size : Int) 0)
def impl_NameOk.l0 : Nat → ByteArray → Int → Int → Option (Bool)
  | 0, _, _, _ => none
  | k + 1, x0, x19, x20 => if x20 < x19 then (if 0 ≤ x20 then (if x20 < (x0.size : Int) then ((impl_letter.f (bt x0 x20)).bind fun t107 => (if t107 = true then (impl_NameOk.l0 k x0 x19 (wrap64 (x20 + 1))) else ((impl_digit.f (bt x0 x20)).bind fun t108 => (if t108 = true then (impl_NameOk.l0 k x0 x19 (wrap64 (x20 + 1))) else ((strings_ContainsRune.f (⟨#[45, 95, 46, 43]⟩ : ByteArray) (wrap32 (bt x0 x20))).bind fun t109 => (if t109 = true then (impl_NameOk.l0 k x0 x19 (wrap64 (x20 + 1))) else (some false))))))) else (none)) else (none)) else (some true)
end
def impl_NameOk.f (k : Nat) (a0 : ByteArray) : Option (Bool) := if (a0.size : Int) < 1 then (impl_NameOk.j0 k a0 true) else (if (a0.size : Int) > 60 then (impl_NameOk.j0 k a0 true) else (if 0 < (a0.size : Int) then (impl_NameOk.j0 k a0 ((bt a0 0) == 46)) else (none)))
set_option maxHeartbeats 8000000 in
set_option maxRecDepth 100000 in
theorem impl_NameOk.calls (k : Nat) (a0 : ByteArray) (r : Bool) (w : World) (h : impl_NameOk.f k a0 = some r) :
    Calls Try.prog 49 #[.string a0] w fun e w' => e = .returned (.bool r) ∧ Drawn0 w w' := by
  have H : (if (a0.size : Int) < 1 then (impl_NameOk.j0 k a0 true) else (if (a0.size : Int) > 60 then (impl_NameOk.j0 k a0 true) else (if 0 < (a0.size : Int) then (impl_NameOk.j0 k a0 ((bt a0 0) == 46)) else (none)))) = some r := h
  clear h
  have HC2 := Aside0.mk H
  clear H
  go_enter Try.func49, Try.ntmps49
  go_upto_region 1 with (fail)
  go_cut [17] (fun v17 wc => ∃ (kq : Nat) (x17_1 : Bool), v17 = .bool x17_1 ∧ Aside0 (impl_NameOk.j0 kq a0 x17_1 = some r) ∧ Aside0 (kq ≤ k) ∧ Drawn0 w wc)
  case first =>
    have H := HC2.out
    clear HC2
    by_cases c3 : (a0.size : Int) < 1
    · rw [if_pos c3] at H
      have c3b0 : decide ((a0.size : Int) < 1) = true := decide_eq_true c3
      have c3b1 : decide (a0.size < 1) = true := decide_eq_true (by omega)
      clear c3
      (first | rw [c3b0] | (simp only [i64_w, i32_w]; rw [c3b0]) | skip)
      have H' := Aside0.mk H
      clear H
      go_wp2
      go_meet
      case rel => exact ⟨_, (true), (by first | rfl | (simp; done) | (simp [*]; done)), H', ⟨by first | omega | exact Nat.le_refl _⟩, by repeat (first | exact Drawn0.refl _ | apply Drawn0.step)⟩
    · rw [if_neg c3] at H
      have c3b0 : decide ((a0.size : Int) < 1) = false := decide_eq_false c3
      have c3b1 : decide (a0.size < 1) = false := decide_eq_false (by omega)
      clear c3
      (first | rw [c3b0] | (simp only [i64_w, i32_w]; rw [c3b0]) | skip)
      by_cases c4 : (a0.size : Int) > 60
      · rw [if_pos c4] at H
        have c4b0 : decide (60 < (a0.size : Int)) = true := decide_eq_true c4
        have c4b1 : decide (60 < a0.size) = true := decide_eq_true (by omega)
        clear c4
        have H' := Aside0.mk H
        clear H
        go_wp2
        go_meet
        case rel => exact ⟨_, (true), (by first | rfl | (simp; done) | (simp [*]; done)), H', ⟨by first | omega | exact Nat.le_refl _⟩, by repeat (first | exact Drawn0.refl _ | apply Drawn0.step)⟩
      · rw [if_neg c4] at H
        have c4b0 : decide (60 < (a0.size : Int)) = false := decide_eq_false c4
        have c4b1 : decide (60 < a0.size) = false := decide_eq_false (by omega)
        clear c4
        by_cases c5 : 0 < (a0.size : Int)
        · rw [if_pos c5] at H
          have c5b0 : decide (0 < (a0.size : Int)) = true := decide_eq_true c5
          have c5b1 : decide (0 < a0.size) = true := decide_eq_true (by omega)
          clear c5
          have H' := Aside0.mk H
          clear H
          have p6 : 0 ≤ (0 : Int) := (by omega)
          have q6 : 0 < a0.size := (by have : (0 : Int) < (a0.size : Int) := of_decide_eq_true (by first | (with_reducible assumption) | assumption); omega)
          have hx6 : ∀ h : 0 < a0.size, ((a0[0]'h).toNat : Int) = bt a0 0 := bt_at a0 0
          clear p6
          have qi6 : (0 < (a0.size : Int)) = True := eq_true (of_decide_eq_true (by first | (with_reducible assumption) | assumption))
          replace q6 := eq_true q6
          go_wp2
          go_meet
          case rel => exact ⟨_, (((bt a0 0) == 46)), (by first | rfl | (simp; done) | (simp [*]; done)), H', ⟨by first | omega | exact Nat.le_refl _⟩, by repeat (first | exact Drawn0.refl _ | apply Drawn0.step)⟩
        · rw [if_neg c5] at H
          exact absurd H (by simp)
  case rest =>
    clear HC2
    try clear p2
    try clear c3
    try clear c3b0
    try clear c3b1
    try clear c4
    try clear c4b0
    try clear c4b1
    try clear c5
    try clear c5b0
    try clear c5b1
    try clear p6
    try clear q6
    try clear hx6
    try clear qi6
    try clear p6
    try clear q6
    obtain ⟨kq, x17_1, rfl, HA, HJ1, ⟨mc1, rfl⟩⟩ := hcut
    cases kq with
    | zero => exact absurd HA.out (by simp [impl_NameOk.j0])
    | succ kj1 =>
      have H := HA.out
      clear HA
      simp only [impl_NameOk.j0] at H
      by_cases c7 : x17_1 = true
      · subst c7
        have H1 : (some false) = some r := by rw [if_pos rfl] at H; exact H
        clear H
        have H := H1
        clear H1
        obtain rfl := Option.some.inj H
        go_wp2
        go_ret
        exact ⟨by first | rfl | (simp; done) | (simp [*]; done), by repeat (first | exact Drawn0.refl _ | apply Drawn0.step)⟩
      · replace c7 := Bool.eq_false_iff.mpr c7
        subst c7
        have H1 : (impl_NameOk.l0 kj1 a0 (a0.size : Int) 0) = some r := by rw [if_neg (show ¬ (false = true) by decide)] at H; exact H
        clear H
        have H := H1
        clear H1
        have H' := Aside0.mk H
        clear H
        go_wp2
        go_loopg [20] kj1 (fun kq v20 w' => ∃ (x20_2 : Int), v20 = .int .i64 x20_2 ∧ Aside0 (impl_NameOk.l0 kq a0 (a0.size : Int) x20_2 = some r) ∧ Aside0 (kq ≤ kj1) ∧ Drawn0 w w')
        case atStart => exact ⟨(0), (by first | rfl | (simp; done) | (simp [*]; done)), H', ⟨Nat.le_refl _⟩, by repeat (first | exact Drawn0.refl _ | apply Drawn0.step)⟩
        case round =>
          clear H'
          try clear c1
          try clear p2
          try clear c3
          try clear c3b0
          try clear c3b1
          try clear c4
          try clear c4b0
          try clear c4b1
          try clear c5
          try clear c5b0
          try clear c5b1
          try clear p6
          try clear q6
          try clear hx6
          try clear qi6
          try clear c7
          try clear p2
          try clear p6
          try clear q6
          obtain ⟨x20_2, rfl, HA, HK2, ⟨m2, rfl⟩⟩ := hrel
          cases gk with
          | zero => exact absurd HA.out (by simp [impl_NameOk.l0])
          | succ k2 =>
            have H := HA.out
            clear HA
            simp only [impl_NameOk.l0] at H
            by_cases c8 : x20_2 < (a0.size : Int)
            · rw [if_pos c8] at H
              have c8b0 : decide (x20_2 < (a0.size : Int)) = true := decide_eq_true c8
              clear c8
              by_cases c9 : 0 ≤ x20_2
              · rw [if_pos c9] at H
                have c9b0 : decide (0 ≤ x20_2) = true := decide_eq_true c9
                clear c9
                by_cases c10 : x20_2 < (a0.size : Int)
                · rw [if_pos c10] at H
                  have c10b0 : decide (x20_2 < (a0.size : Int)) = true := decide_eq_true c10
                  clear c10
                  replace H := Option.bind_eq_some_iff.mp H
                  obtain ⟨t107, A120, H⟩ := H
                  replace H : (if t107 = true then (impl_NameOk.l0 k2 a0 (a0.size : Int) (wrap64 (x20_2 + 1))) else ((impl_digit.f (bt a0 x20_2)).bind fun t108 => (if t108 = true then (impl_NameOk.l0 k2 a0 (a0.size : Int) (wrap64 (x20_2 + 1))) else ((strings_ContainsRune.f (⟨#[45, 95, 46, 43]⟩ : ByteArray) (wrap32 (bt a0 x20_2))).bind fun t109 => (if t109 = true then (impl_NameOk.l0 k2 a0 (a0.size : Int) (wrap64 (x20_2 + 1))) else (some false)))))) = some r := H
                  have A12 := Aside0.mk A120
                  clear A120
                  by_cases c13 : t107 = true
                  · subst c13
                    have H1 : (impl_NameOk.l0 k2 a0 (a0.size : Int) (wrap64 (x20_2 + 1))) = some r := by rw [if_pos rfl] at H; exact H
                    clear H
                    have H := H1
                    clear H1
                    have H' := Aside0.mk H
                    clear H
                    have p11 : 0 ≤ (x20_2 : Int) := of_decide_eq_true (by first | (with_reducible assumption) | assumption)
                    have q11 : x20_2 < (a0.size : Int) := of_decide_eq_true (by first | (with_reducible assumption) | assumption)
                    have hx11 := bt_at a0 x20_2
                    replace p11 := eq_true p11
                    replace q11 := eq_true q11
                    go_wp2_with (first | ((with_reducible refine gate_callee (f := 72) rfl ?_); refine goesL_ (some 27) rfl rfl Try.func72 (by kernel_rfl) rfl #[.int .u8 (bt a0 x20_2)] rfl (by (try simp only [List.map_toArray, List.map_cons, List.map_nil]); first | done | rfl | (simp only [List.length_drop, List.length_take]; rfl)) ?_; (with_reducible refine (impl_letter.calls (bt a0 x20_2) true _ A12.out).mono ?_); rintro e w' ⟨rfl, ⟨nd, rfl⟩⟩; refine ⟨_, rfl, ?_⟩))
                    go_roundg k2
                    case measure => have := HJ1.out; have := HK2.out; omega
                    case rel => exact ⟨(wrap64 (x20_2 + 1)), (by first | rfl | (simp; done) | (simp [*]; done)), H', ⟨by have := HJ1.out; have := HK2.out; omega⟩, by repeat (first | exact Drawn0.refl _ | apply Drawn0.step)⟩
                  · replace c13 := Bool.eq_false_iff.mpr c13
                    subst c13
                    have H1 : ((impl_digit.f (bt a0 x20_2)).bind fun t108 => (if t108 = true then (impl_NameOk.l0 k2 a0 (a0.size : Int) (wrap64 (x20_2 + 1))) else ((strings_ContainsRune.f (⟨#[45, 95, 46, 43]⟩ : ByteArray) (wrap32 (bt a0 x20_2))).bind fun t109 => (if t109 = true then (impl_NameOk.l0 k2 a0 (a0.size : Int) (wrap64 (x20_2 + 1))) else (some false))))) = some r := by rw [if_neg (show ¬ (false = true) by decide)] at H; exact H
                    clear H
                    have H := H1
                    clear H1
                    replace H := Option.bind_eq_some_iff.mp H
                    obtain ⟨t108, A140, H⟩ := H
                    replace H : (if t108 = true then (impl_NameOk.l0 k2 a0 (a0.size : Int) (wrap64 (x20_2 + 1))) else ((strings_ContainsRune.f (⟨#[45, 95, 46, 43]⟩ : ByteArray) (wrap32 (bt a0 x20_2))).bind fun t109 => (if t109 = true then (impl_NameOk.l0 k2 a0 (a0.size : Int) (wrap64 (x20_2 + 1))) else (some false)))) = some r := H
                    have A14 := Aside0.mk A140
                    clear A140
                    by_cases c15 : t108 = true
                    · subst c15
                      have H1 : (impl_NameOk.l0 k2 a0 (a0.size : Int) (wrap64 (x20_2 + 1))) = some r := by rw [if_pos rfl] at H; exact H
                      clear H
                      have H := H1
                      clear H1
                      have H' := Aside0.mk H
                      clear H
                      have p11 : 0 ≤ (x20_2 : Int) := of_decide_eq_true (by first | (with_reducible assumption) | assumption)
                      have q11 : x20_2 < (a0.size : Int) := of_decide_eq_true (by first | (with_reducible assumption) | assumption)
                      have hx11 := bt_at a0 x20_2
                      replace p11 := eq_true p11
                      replace q11 := eq_true q11
                      go_wp2_with (first | ((with_reducible refine gate_callee (f := 72) rfl ?_); refine goesL_ (some 27) rfl rfl Try.func72 (by kernel_rfl) rfl #[.int .u8 (bt a0 x20_2)] rfl (by (try simp only [List.map_toArray, List.map_cons, List.map_nil]); first | done | rfl | (simp only [List.length_drop, List.length_take]; rfl)) ?_; (with_reducible refine (impl_letter.calls (bt a0 x20_2) false _ A12.out).mono ?_); rintro e w' ⟨rfl, ⟨nd, rfl⟩⟩; refine ⟨_, rfl, ?_⟩) | (go_at_call 73; (with_reducible refine (impl_digit.calls (bt a0 x20_2) true _ A14.out).mono ?_); rintro e w' ⟨rfl, ⟨nd, rfl⟩⟩))
                      go_roundg k2
                      case measure => have := HJ1.out; have := HK2.out; omega
                      case rel => exact ⟨(wrap64 (x20_2 + 1)), (by first | rfl | (simp; done) | (simp [*]; done)), H', ⟨by have := HJ1.out; have := HK2.out; omega⟩, by repeat (first | exact Drawn0.refl _ | apply Drawn0.step)⟩
                    · replace c15 := Bool.eq_false_iff.mpr c15
                      subst c15
                      have H1 : ((strings_ContainsRune.f (⟨#[45, 95, 46, 43]⟩ : ByteArray) (wrap32 (bt a0 x20_2))).bind fun t109 => (if t109 = true then (impl_NameOk.l0 k2 a0 (a0.size : Int) (wrap64 (x20_2 + 1))) else (some false))) = some r := by rw [if_neg (show ¬ (false = true) by decide)] at H; exact H
                      clear H
                      have H := H1
                      clear H1
                      replace H := Option.bind_eq_some_iff.mp H
                      obtain ⟨t109, A160, H⟩ := H
                      replace H : (if t109 = true then (impl_NameOk.l0 k2 a0 (a0.size : Int) (wrap64 (x20_2 + 1))) else (some false)) = some r := H
                      have A16 := Aside0.mk A160
                      clear A160
                      by_cases c17 : t109 = true
                      · subst c17
                        have H1 : (impl_NameOk.l0 k2 a0 (a0.size : Int) (wrap64 (x20_2 + 1))) = some r := by rw [if_pos rfl] at H; exact H
                        clear H
                        have H := H1
                        clear H1
                        have H' := Aside0.mk H
                        clear H
                        have p11 : 0 ≤ (x20_2 : Int) := of_decide_eq_true (by first | (with_reducible assumption) | assumption)
                        have q11 : x20_2 < (a0.size : Int) := of_decide_eq_true (by first | (with_reducible assumption) | assumption)
                        have hx11 := bt_at a0 x20_2
                        replace p11 := eq_true p11
                        replace q11 := eq_true q11
                        go_wp2_with (first | ((with_reducible refine gate_callee (f := 72) rfl ?_); refine goesL_ (some 27) rfl rfl Try.func72 (by kernel_rfl) rfl #[.int .u8 (bt a0 x20_2)] rfl (by (try simp only [List.map_toArray, List.map_cons, List.map_nil]); first | done | rfl | (simp only [List.length_drop, List.length_take]; rfl)) ?_; (with_reducible refine (impl_letter.calls (bt a0 x20_2) false _ A12.out).mono ?_); rintro e w' ⟨rfl, ⟨nd, rfl⟩⟩; refine ⟨_, rfl, ?_⟩) | (go_at_call 73; (with_reducible refine (impl_digit.calls (bt a0 x20_2) false _ A14.out).mono ?_); rintro e w' ⟨rfl, ⟨nd, rfl⟩⟩) | (go_at_call 74; (with_reducible refine (strings_ContainsRune.calls (⟨#[45, 95, 46, 43]⟩ : ByteArray) (wrap32 (bt a0 x20_2)) true _ A16.out).mono ?_); rintro e w' ⟨rfl, ⟨nd, rfl⟩⟩))
                        go_roundg k2
                        case measure => have := HJ1.out; have := HK2.out; omega
                        case rel => exact ⟨(wrap64 (x20_2 + 1)), (by first | rfl | (simp; done) | (simp [*]; done)), H', ⟨by have := HJ1.out; have := HK2.out; omega⟩, by repeat (first | exact Drawn0.refl _ | apply Drawn0.step)⟩
                      · replace c17 := Bool.eq_false_iff.mpr c17
                        subst c17
                        have H1 : (some false) = some r := by rw [if_neg (show ¬ (false = true) by decide)] at H; exact H
                        clear H
                        have H := H1
                        clear H1
                        obtain rfl := Option.some.inj H
                        have p11 : 0 ≤ (x20_2 : Int) := of_decide_eq_true (by first | (with_reducible assumption) | assumption)
                        have q11 : x20_2 < (a0.size : Int) := of_decide_eq_true (by first | (with_reducible assumption) | assumption)
                        have hx11 := bt_at a0 x20_2
                        replace p11 := eq_true p11
                        replace q11 := eq_true q11
                        go_wp2_with (first | ((with_reducible refine gate_callee (f := 72) rfl ?_); refine goesL_ (some 27) rfl rfl Try.func72 (by kernel_rfl) rfl #[.int .u8 (bt a0 x20_2)] rfl (by (try simp only [List.map_toArray, List.map_cons, List.map_nil]); first | done | rfl | (simp only [List.length_drop, List.length_take]; rfl)) ?_; (with_reducible refine (impl_letter.calls (bt a0 x20_2) false _ A12.out).mono ?_); rintro e w' ⟨rfl, ⟨nd, rfl⟩⟩; refine ⟨_, rfl, ?_⟩) | (go_at_call 73; (with_reducible refine (impl_digit.calls (bt a0 x20_2) false _ A14.out).mono ?_); rintro e w' ⟨rfl, ⟨nd, rfl⟩⟩) | (go_at_call 74; (with_reducible refine (strings_ContainsRune.calls (⟨#[45, 95, 46, 43]⟩ : ByteArray) (wrap32 (bt a0 x20_2)) false _ A16.out).mono ?_); rintro e w' ⟨rfl, ⟨nd, rfl⟩⟩))
                        go_ret
                        exact ⟨by first | rfl | (simp; done) | (simp [*]; done), by repeat (first | exact Drawn0.refl _ | apply Drawn0.step)⟩
                · rw [if_neg c10] at H
                  exact absurd H (by simp)
              · rw [if_neg c9] at H
                exact absurd H (by simp)
            · rw [if_neg c8] at H
              have c8b0 : decide (x20_2 < (a0.size : Int)) = false := decide_eq_false c8
              clear c8
              obtain rfl := Option.some.inj H
              go_wp2
              go_ret
              exact ⟨by first | rfl | (simp; done) | (simp [*]; done), by repeat (first | exact Drawn0.refl _ | apply Drawn0.step)⟩
end Go.Proofs.Ytnjmhlhlmokjnaa.G
namespace Go.Proofs.Ytnjmhlhlmokjnaa.G
open Go.RowKit Go.Proofs.YtnjmhlhlmokjnaaW.PrintWords Go.Proofs.YtnjmhlhlmokjnaaW.PrintLast Go.Proofs.YtnjmhlhlmokjnaaW.PrintMore
attribute [local go_sem] max2_int min2_int max_two min_two max_three min_three max_four min_four
set_option linter.unusedVariables false
set_option linter.unusedSimpArgs false
def impl_rising_hs.l0 : Nat → List ByteArray → Int → Option (Bool)
  | 0, _, _ => none
  | k + 1, x0, x3 => if x3 < (x0.length : Int) then (if 0 ≤ (wrap64 (x3 - 1)) then (if (wrap64 (x3 - 1)) < (x0.length : Int) then (if 0 ≤ x3 then (if ((Op.bytesLess ((rdOf ByteArray.empty x0 (wrap64 (x3 - 1))).toList) ((rdOf ByteArray.empty x0 x3).toList)) = true) then (impl_rising_hs.l0 k x0 (wrap64 (x3 + 1))) else (some false)) else (none)) else (none)) else (none)) else (some true)
def impl_rising_hs.f (k : Nat) (l0 : List ByteArray) : Option (Bool) := impl_rising_hs.l0 k l0 1
set_option maxHeartbeats 8000000 in
set_option maxRecDepth 100000 in
theorem impl_rising_hs.calls (k : Nat) (A0 : Option Addr) (c0 : Nat) (l0 : List ByteArray) (r : Bool) (w : World) (hr0 : Kd.C Kd.string w A0 l0.length l0) (hc0 : l0.length ≤ c0) (h : impl_rising_hs.f k l0 = some r) :
    Calls Try.prog 75 #[.slice A0 l0.length c0] w fun e w' => e = .returned (.bool r) ∧ Drawn0 w w' := by
  have HR0 := Aside0.mk hr0
  have HC0 := Aside0.mk hc0
  clear hr0 hc0
  have H : (impl_rising_hs.l0 k l0 1) = some r := h
  clear h
  have H' := Aside0.mk H
  clear H
  go_enter Try.func75, Try.ntmps75
  go_wp2
  repeat (go_quiet (fail); try go_wp2)
  go_loopg [3] k (fun kq v3 w' => ∃ (x3_1 : Int), v3 = .int .i64 x3_1 ∧ Aside0 (impl_rising_hs.l0 kq l0 x3_1 = some r) ∧ Aside0 (kq ≤ k) ∧ Drawn0 w w')
  case atStart => exact ⟨(1), (by first | rfl | (simp; done) | (simp [*]; done)), H', ⟨Nat.le_refl _⟩, by repeat (first | exact Drawn0.refl _ | apply Drawn0.step)⟩
  case round =>
    clear H'
    obtain ⟨x3_1, rfl, HA, HK1, ⟨m1, rfl⟩⟩ := hrel
    cases gk with
    | zero => exact absurd HA.out (by simp [impl_rising_hs.l0])
    | succ k1 =>
      have H := HA.out
      clear HA
      simp only [impl_rising_hs.l0] at H
      by_cases c2 : x3_1 < (l0.length : Int)
      · rw [if_pos c2] at H
        have c2b0 : decide (x3_1 < (l0.length : Int)) = true := decide_eq_true c2
        clear c2
        obtain ⟨ji3, hji3⟩ : ∃ j_ : Int, (wrap64 (x3_1 - 1)) = j_ := ⟨_, rfl⟩
        replace H : (if 0 ≤ (ji3) then (if (ji3) < (l0.length : Int) then (if 0 ≤ x3_1 then (if ((Op.bytesLess ((rdOf ByteArray.empty l0 (ji3)).toList) ((rdOf ByteArray.empty l0 x3_1).toList)) = true) then (impl_rising_hs.l0 k1 l0 (wrap64 (x3_1 + 1))) else (some false)) else (none)) else (none)) else (none)) = some r := by first | (rw [hji3] at H; exact H) | (simp only [hji3] at H ⊢; exact H)
        have hji3w : (IntKind.i64.wrap (x3_1 - 1)) = ji3 := (i64_w _).trans hji3
        by_cases c4 : 0 ≤ (ji3)
        · rw [if_pos c4] at H
          have c4b0 : decide (0 ≤ (ji3)) = true := decide_eq_true c4
          clear c4
          by_cases c5 : (ji3) < (l0.length : Int)
          · rw [if_pos c5] at H
            have c5b0 : decide ((ji3) < (l0.length : Int)) = true := decide_eq_true c5
            clear c5
            by_cases c6 : 0 ≤ x3_1
            · rw [if_pos c6] at H
              have c6b0 : decide (0 ≤ x3_1) = true := decide_eq_true c6
              clear c6
              by_cases c7 : ((Op.bytesLess ((rdOf ByteArray.empty l0 (ji3)).toList) ((rdOf ByteArray.empty l0 x3_1).toList)) = true)
              · rw [if_pos c7] at H
                have c7b0 : (Op.bytesLess ((rdOf ByteArray.empty l0 (ji3)).toList) ((rdOf ByteArray.empty l0 x3_1).toList)) = true := c7
                clear c7
                have H' := Aside0.mk H
                clear H
                have p110 : 0 ≤ ((ji3) : Int) := of_decide_eq_true (by first | (with_reducible assumption) | assumption)
                have q110 : (ji3) < (l0.length : Int) := of_decide_eq_true (by first | (with_reducible assumption) | assumption)
                obtain ⟨ad110, e110, hx110_0⟩ := Kd.at_string HR0.out (ji3) p110 q110
                cases e110
                replace p110 := eq_true p110
                replace q110 := eq_true q110
                have p111 : 0 ≤ (x3_1 : Int) := of_decide_eq_true (by first | (with_reducible assumption) | assumption)
                have q111 : x3_1 < (l0.length : Int) := of_decide_eq_true (by first | (with_reducible assumption) | assumption)
                obtain ⟨ad111, e111, hx111_0⟩ := Kd.at_string HR0.out x3_1 p111 q111
                obtain rfl : ad110 = ad111 := (by injection e111)
                replace p111 := eq_true p111
                replace q111 := eq_true q111
                go_wp2
                repeat (go_quiet (fail); try go_wp2)
                go_roundg k1
                case measure => have := HK1.out; omega
                case rel => exact ⟨(wrap64 (x3_1 + 1)), (by first | rfl | (simp; done) | (simp [*]; done)), H', ⟨by have := HK1.out; omega⟩, by repeat (first | exact Drawn0.refl _ | apply Drawn0.step)⟩
              · rw [if_neg c7] at H
                have c7b0 : (Op.bytesLess ((rdOf ByteArray.empty l0 (ji3)).toList) ((rdOf ByteArray.empty l0 x3_1).toList)) = false := by simpa using c7
                clear c7
                obtain rfl := Option.some.inj H
                have p110 : 0 ≤ ((ji3) : Int) := of_decide_eq_true (by first | (with_reducible assumption) | assumption)
                have q110 : (ji3) < (l0.length : Int) := of_decide_eq_true (by first | (with_reducible assumption) | assumption)
                obtain ⟨ad110, e110, hx110_0⟩ := Kd.at_string HR0.out (ji3) p110 q110
                cases e110
                replace p110 := eq_true p110
                replace q110 := eq_true q110
                have p111 : 0 ≤ (x3_1 : Int) := of_decide_eq_true (by first | (with_reducible assumption) | assumption)
                have q111 : x3_1 < (l0.length : Int) := of_decide_eq_true (by first | (with_reducible assumption) | assumption)
                obtain ⟨ad111, e111, hx111_0⟩ := Kd.at_string HR0.out x3_1 p111 q111
                obtain rfl : ad110 = ad111 := (by injection e111)
                replace p111 := eq_true p111
                replace q111 := eq_true q111
                go_wp2
                repeat (go_quiet (fail); try go_wp2)
                go_ret
                exact ⟨by first | rfl | (simp; done) | (simp only [← hji3] <;> (first | rfl | simp)) | (simp [*]; done), by repeat (first | exact Drawn0.refl _ | apply Drawn0.step)⟩
            · rw [if_neg c6] at H
              exact absurd H (by simp)
          · rw [if_neg c5] at H
            exact absurd H (by simp)
        · rw [if_neg c4] at H
          exact absurd H (by simp)
      · rw [if_neg c2] at H
        have c2b0 : decide (x3_1 < (l0.length : Int)) = false := decide_eq_false c2
        clear c2
        obtain rfl := Option.some.inj H
        go_wp2
        repeat (go_quiet (fail); try go_wp2)
        go_ret
        exact ⟨by first | rfl | (simp; done) | (simp [*]; done), by repeat (first | exact Drawn0.refl _ | apply Drawn0.step)⟩
end Go.Proofs.Ytnjmhlhlmokjnaa.G
namespace Go.Proofs.Ytnjmhlhlmokjnaa.G
open Go.RowKit Go.Proofs.YtnjmhlhlmokjnaaW.PrintWords Go.Proofs.YtnjmhlhlmokjnaaW.PrintLast Go.Proofs.YtnjmhlhlmokjnaaW.PrintMore
attribute [local go_sem] max2_int min2_int max_two min_two max_three min_three max_four min_four
set_option linter.unusedVariables false
set_option linter.unusedSimpArgs false
def impl_namesUp.l0 : Nat → List ByteArray → List ByteArray → Int → Int → Option (Bool)
  | 0, _, _, _, _ => none
  | k + 1, x0, x5, x6, x7 => if x7 < x6 then (if 0 ≤ x7 then (if x7 < (x5.length : Int) then ((impl_NameOk.f k (rdOf ByteArray.empty x5 x7)).bind fun t113 => (if t113 = true then (impl_namesUp.l0 k x0 x5 x6 (wrap64 (x7 + 1))) else (some false))) else (none)) else (none)) else ((impl_rising_hs.f k x0).bind fun t114 => (some t114))
def impl_namesUp.f (k : Nat) (l0 : List ByteArray) : Option (Bool) := impl_namesUp.l0 k l0 l0 (l0.length : Int) 0
set_option maxHeartbeats 8000000 in
set_option maxRecDepth 100000 in
theorem impl_namesUp.calls (k : Nat) (A0 : Option Addr) (c0 : Nat) (l0 : List ByteArray) (r : Bool) (w : World) (hr0 : Kd.C Kd.string w A0 l0.length l0) (hc0 : l0.length ≤ c0) (h : impl_namesUp.f k l0 = some r) :
    Calls Try.prog 50 #[.slice A0 l0.length c0] w fun e w' => e = .returned (.bool r) ∧ Drawn0 w w' := by
  have HR0 := Aside0.mk hr0
  have HC0 := Aside0.mk hc0
  clear hr0 hc0
  have H : (impl_namesUp.l0 k l0 l0 (l0.length : Int) 0) = some r := h
  clear h
  have H' := Aside0.mk H
  clear H
  go_enter Try.func50, Try.ntmps50
  go_wp2
  go_loopg [7] k (fun kq v7 w' => ∃ (x7_1 : Int), v7 = .int .i64 x7_1 ∧ Aside0 (impl_namesUp.l0 kq l0 l0 (l0.length : Int) x7_1 = some r) ∧ Aside0 (kq ≤ k) ∧ Drawn0 w w')
  case atStart => exact ⟨(0), (by first | rfl | (simp; done) | (simp [*]; done)), H', ⟨Nat.le_refl _⟩, by repeat (first | exact Drawn0.refl _ | apply Drawn0.step)⟩
  case round =>
    clear H'
    obtain ⟨x7_1, rfl, HA, HK1, ⟨m1, rfl⟩⟩ := hrel
    cases gk with
    | zero => exact absurd HA.out (by simp [impl_namesUp.l0])
    | succ k1 =>
      have H := HA.out
      clear HA
      simp only [impl_namesUp.l0] at H
      by_cases c2 : x7_1 < (l0.length : Int)
      · rw [if_pos c2] at H
        have c2b0 : decide (x7_1 < (l0.length : Int)) = true := decide_eq_true c2
        clear c2
        by_cases c3 : 0 ≤ x7_1
        · rw [if_pos c3] at H
          have c3b0 : decide (0 ≤ x7_1) = true := decide_eq_true c3
          clear c3
          by_cases c4 : x7_1 < (l0.length : Int)
          · rw [if_pos c4] at H
            have c4b0 : decide (x7_1 < (l0.length : Int)) = true := decide_eq_true c4
            clear c4
            replace H := Option.bind_eq_some_iff.mp H
            obtain ⟨t113, A50, H⟩ := H
            replace H : (if t113 = true then (impl_namesUp.l0 k1 l0 l0 (l0.length : Int) (wrap64 (x7_1 + 1))) else (some false)) = some r := H
            have A5 := Aside0.mk A50
            clear A50
            by_cases c6 : t113 = true
            · subst c6
              have H1 : (impl_namesUp.l0 k1 l0 l0 (l0.length : Int) (wrap64 (x7_1 + 1))) = some r := by rw [if_pos rfl] at H; exact H
              clear H
              have H := H1
              clear H1
              have H' := Aside0.mk H
              clear H
              have p112 : 0 ≤ (x7_1 : Int) := of_decide_eq_true (by first | (with_reducible assumption) | assumption)
              have q112 : x7_1 < (l0.length : Int) := of_decide_eq_true (by first | (with_reducible assumption) | assumption)
              obtain ⟨ad112, e112, hx112_0⟩ := Kd.at_string HR0.out x7_1 p112 q112
              cases e112
              replace p112 := eq_true p112
              replace q112 := eq_true q112
              go_wp2_with (first | ((with_reducible refine gate_callee (f := 49) rfl ?_); refine goesL_ (some 12) rfl rfl Try.func49 (by kernel_rfl) rfl #[.string (rdOf ByteArray.empty l0 x7_1)] rfl (by (try simp only [List.map_toArray, List.map_cons, List.map_nil]); first | done | rfl | (simp only [List.length_drop, List.length_take]; rfl)) ?_; (with_reducible refine (impl_NameOk.calls k1 (rdOf ByteArray.empty l0 x7_1) true _ A5.out).mono ?_); rintro e w' ⟨rfl, ⟨nd, rfl⟩⟩; refine ⟨_, rfl, ?_⟩))
              go_roundg k1
              case measure => have := HK1.out; omega
              case rel => exact ⟨(wrap64 (x7_1 + 1)), (by first | rfl | (simp; done) | (simp [*]; done)), H', ⟨by have := HK1.out; omega⟩, by repeat (first | exact Drawn0.refl _ | apply Drawn0.step)⟩
            · replace c6 := Bool.eq_false_iff.mpr c6
              subst c6
              have H1 : (some false) = some r := by rw [if_neg (show ¬ (false = true) by decide)] at H; exact H
              clear H
              have H := H1
              clear H1
              obtain rfl := Option.some.inj H
              have p112 : 0 ≤ (x7_1 : Int) := of_decide_eq_true (by first | (with_reducible assumption) | assumption)
              have q112 : x7_1 < (l0.length : Int) := of_decide_eq_true (by first | (with_reducible assumption) | assumption)
              obtain ⟨ad112, e112, hx112_0⟩ := Kd.at_string HR0.out x7_1 p112 q112
              cases e112
              replace p112 := eq_true p112
              replace q112 := eq_true q112
              go_wp2_with (first | ((with_reducible refine gate_callee (f := 49) rfl ?_); refine goesL_ (some 12) rfl rfl Try.func49 (by kernel_rfl) rfl #[.string (rdOf ByteArray.empty l0 x7_1)] rfl (by (try simp only [List.map_toArray, List.map_cons, List.map_nil]); first | done | rfl | (simp only [List.length_drop, List.length_take]; rfl)) ?_; (with_reducible refine (impl_NameOk.calls k1 (rdOf ByteArray.empty l0 x7_1) false _ A5.out).mono ?_); rintro e w' ⟨rfl, ⟨nd, rfl⟩⟩; refine ⟨_, rfl, ?_⟩))
              go_ret
              exact ⟨by first | rfl | (simp; done) | (simp [*]; done), by repeat (first | exact Drawn0.refl _ | apply Drawn0.step)⟩
          · rw [if_neg c4] at H
            exact absurd H (by simp)
        · rw [if_neg c3] at H
          exact absurd H (by simp)
      · rw [if_neg c2] at H
        have c2b0 : decide (x7_1 < (l0.length : Int)) = false := decide_eq_false c2
        clear c2
        replace H := Option.bind_eq_some_iff.mp H
        obtain ⟨t114, A70, H⟩ := H
        replace H : (some t114) = some r := H
        have A7 := Aside0.mk A70
        clear A70
        obtain rfl := Option.some.inj H
        go_wp2_with (first | ((with_reducible refine gate_callee (f := 75) rfl ?_); refine goesL_ (some 16) rfl rfl Try.func75 (by kernel_rfl) rfl #[.slice A0 l0.length c0] rfl (by (try simp only [List.map_toArray, List.map_cons, List.map_nil]); first | done | rfl | (simp only [List.length_drop, List.length_take]; rfl)) ?_; (with_reducible refine (impl_rising_hs.calls k1 _ _ l0 t114 _ ?side1 ?side2 A7.out).mono ?_); (case side1 => repeat (first | exact HR0.out | (with_reducible refine Kd.C_alloc ?_ _) | (with_reducible refine Kd.C_drewN ?_ _) | (with_reducible refine Kd.C_drew ?_))); (case side2 => exact HC0.out); rintro e w' ⟨rfl, ⟨nd, rfl⟩⟩; refine ⟨_, rfl, ?_⟩))
        go_ret
        exact ⟨by first | rfl | (simp; done) | (simp [*]; done), by repeat (first | exact Drawn0.refl _ | apply Drawn0.step)⟩
end Go.Proofs.Ytnjmhlhlmokjnaa.G
namespace Go.Proofs.Ytnjmhlhlmokjnaa.G
open Go.RowKit Go.Proofs.YtnjmhlhlmokjnaaW.PrintWords Go.Proofs.YtnjmhlhlmokjnaaW.PrintLast Go.Proofs.YtnjmhlhlmokjnaaW.PrintMore
attribute [local go_sem] max2_int min2_int max_two min_two max_three min_three max_four min_four
set_option linter.unusedVariables false
set_option linter.unusedSimpArgs false
def spec_l1Digit.f (a0 : Int) : Option (Bool) := if a0 ≥ 48 then (some (decide (a0 ≤ 57))) else (some false)
set_option maxHeartbeats 8000000 in
set_option maxRecDepth 100000 in
theorem spec_l1Digit.calls (a0 : Int) (r : Bool) (w : World) (h : spec_l1Digit.f a0 = some r) :
    Calls Try.prog 71 #[.int .u8 a0] w fun e w' => e = .returned (.bool r) ∧ Drawn0 w w' := by
  have H : (if a0 ≥ 48 then (some (decide (a0 ≤ 57))) else (some false)) = some r := h
  clear h
  by_cases c2 : a0 ≥ 48
  · rw [if_pos c2] at H
    have c2b0 : decide (48 ≤ a0) = true := decide_eq_true c2
    clear c2
    obtain rfl := Option.some.inj H
    go_enter Try.func71, Try.ntmps71
    go_wp2
    go_ret
    exact ⟨by first | rfl | (simp; done) | (simp [*]; done), by repeat (first | exact Drawn0.refl _ | apply Drawn0.step)⟩
  · rw [if_neg c2] at H
    have c2b0 : decide (48 ≤ a0) = false := decide_eq_false c2
    clear c2
    obtain rfl := Option.some.inj H
    go_enter Try.func71, Try.ntmps71
    go_wp2
    go_ret
    exact ⟨by first | rfl | (simp; done) | (simp [*]; done), by repeat (first | exact Drawn0.refl _ | apply Drawn0.step)⟩
end Go.Proofs.Ytnjmhlhlmokjnaa.G
namespace Go.Proofs.Ytnjmhlhlmokjnaa.G
open Go.RowKit Go.Proofs.YtnjmhlhlmokjnaaW.PrintWords Go.Proofs.YtnjmhlhlmokjnaaW.PrintLast Go.Proofs.YtnjmhlhlmokjnaaW.PrintMore
attribute [local go_sem] max2_int min2_int max_two min_two max_three min_three max_four min_four
set_option linter.unusedVariables false
set_option linter.unusedSimpArgs false
def spec_l1Letter.f (a0 : Int) : Option (Bool) := if a0 ≥ 97 then (if a0 ≤ 122 then (some true) else (if a0 ≥ 65 then (some (decide (a0 ≤ 90))) else (some false))) else (if a0 ≥ 65 then (some (decide (a0 ≤ 90))) else (some false))
set_option maxHeartbeats 8000000 in
set_option maxRecDepth 100000 in
theorem spec_l1Letter.calls (a0 : Int) (r : Bool) (w : World) (h : spec_l1Letter.f a0 = some r) :
    Calls Try.prog 70 #[.int .u8 a0] w fun e w' => e = .returned (.bool r) ∧ Drawn0 w w' := by
  have H : (if a0 ≥ 97 then (if a0 ≤ 122 then (some true) else (if a0 ≥ 65 then (some (decide (a0 ≤ 90))) else (some false))) else (if a0 ≥ 65 then (some (decide (a0 ≤ 90))) else (some false))) = some r := h
  clear h
  by_cases c2 : a0 ≥ 97
  · rw [if_pos c2] at H
    have c2b0 : decide (97 ≤ a0) = true := decide_eq_true c2
    clear c2
    by_cases c3 : a0 ≤ 122
    · rw [if_pos c3] at H
      have c3b0 : decide (a0 ≤ 122) = true := decide_eq_true c3
      clear c3
      obtain rfl := Option.some.inj H
      go_enter Try.func70, Try.ntmps70
      go_wp2
      go_ret
      exact ⟨by first | rfl | (simp; done) | (simp [*]; done), by repeat (first | exact Drawn0.refl _ | apply Drawn0.step)⟩
    · rw [if_neg c3] at H
      have c3b0 : decide (a0 ≤ 122) = false := decide_eq_false c3
      clear c3
      by_cases c4 : a0 ≥ 65
      · rw [if_pos c4] at H
        have c4b0 : decide (65 ≤ a0) = true := decide_eq_true c4
        clear c4
        obtain rfl := Option.some.inj H
        go_enter Try.func70, Try.ntmps70
        go_wp2
        go_ret
        exact ⟨by first | rfl | (simp; done) | (simp [*]; done), by repeat (first | exact Drawn0.refl _ | apply Drawn0.step)⟩
      · rw [if_neg c4] at H
        have c4b0 : decide (65 ≤ a0) = false := decide_eq_false c4
        clear c4
        obtain rfl := Option.some.inj H
        go_enter Try.func70, Try.ntmps70
        go_wp2
        go_ret
        exact ⟨by first | rfl | (simp; done) | (simp [*]; done), by repeat (first | exact Drawn0.refl _ | apply Drawn0.step)⟩
  · rw [if_neg c2] at H
    have c2b0 : decide (97 ≤ a0) = false := decide_eq_false c2
    clear c2
    by_cases c5 : a0 ≥ 65
    · rw [if_pos c5] at H
      have c5b0 : decide (65 ≤ a0) = true := decide_eq_true c5
      clear c5
      obtain rfl := Option.some.inj H
      go_enter Try.func70, Try.ntmps70
      go_wp2
      go_ret
      exact ⟨by first | rfl | (simp; done) | (simp [*]; done), by repeat (first | exact Drawn0.refl _ | apply Drawn0.step)⟩
    · rw [if_neg c5] at H
      have c5b0 : decide (65 ≤ a0) = false := decide_eq_false c5
      clear c5
      obtain rfl := Option.some.inj H
      go_enter Try.func70, Try.ntmps70
      go_wp2
      go_ret
      exact ⟨by first | rfl | (simp; done) | (simp [*]; done), by repeat (first | exact Drawn0.refl _ | apply Drawn0.step)⟩
end Go.Proofs.Ytnjmhlhlmokjnaa.G
namespace Go.Proofs.Ytnjmhlhlmokjnaa.G
open Go.RowKit Go.Proofs.YtnjmhlhlmokjnaaW.PrintWords Go.Proofs.YtnjmhlhlmokjnaaW.PrintLast Go.Proofs.YtnjmhlhlmokjnaaW.PrintMore
attribute [local go_sem] max2_int min2_int max_two min_two max_three min_three max_four min_four
set_option linter.unusedVariables false
set_option linter.unusedSimpArgs false
mutual
def spec_NameOk.j0 : Nat → ByteArray → Bool → Option (Bool)
  | 0, _, _ => none
  | k + 1, x0, x17 => if x17 = true then (some false) else (spec_NameOk.l0 k x0 0)
def spec_NameOk.l0 : Nat → ByteArray → Int → Option (Bool)
  | 0, _, _ => none
  | k + 1, x0, x3 => if x3 < (x0.size : Int) then (if 0 ≤ x3 then ((spec_l1Letter.f (bt x0 x3)).bind fun t101 => (if t101 = true then (spec_NameOk.l0 k x0 (wrap64 (x3 + 1))) else ((spec_l1Digit.f (bt x0 x3)).bind fun t102 => (if t102 = true then (spec_NameOk.l0 k x0 (wrap64 (x3 + 1))) else (if (bt x0 x3) = 45 then (spec_NameOk.l0 k x0 (wrap64 (x3 + 1))) else (if (bt x0 x3) = 95 then (spec_NameOk.l0 k x0 (wrap64 (x3 + 1))) else (if (bt x0 x3) = 46 then (spec_NameOk.l0 k x0 (wrap64 (x3 + 1))) else (if (bt x0 x3) = 43 then (spec_NameOk.l0 k x0 (wrap64 (x3 + 1))) else (some false))))))))) else (none)) else (some true)
end
def spec_NameOk.f (k : Nat) (a0 : ByteArray) : Option (Bool) := if (a0.size : Int) < 1 then (spec_NameOk.j0 k a0 true) else (if (a0.size : Int) > 60 then (spec_NameOk.j0 k a0 true) else (if 0 < (a0.size : Int) then (spec_NameOk.j0 k a0 ((bt a0 0) == 46)) else (none)))
set_option maxHeartbeats 8000000 in
set_option maxRecDepth 100000 in
theorem spec_NameOk.calls (k : Nat) (a0 : ByteArray) (r : Bool) (w : World) (h : spec_NameOk.f k a0 = some r) :
    Calls Try.prog 46 #[.string a0] w fun e w' => e = .returned (.bool r) ∧ Drawn0 w w' := by
  have H : (if (a0.size : Int) < 1 then (spec_NameOk.j0 k a0 true) else (if (a0.size : Int) > 60 then (spec_NameOk.j0 k a0 true) else (if 0 < (a0.size : Int) then (spec_NameOk.j0 k a0 ((bt a0 0) == 46)) else (none)))) = some r := h
  clear h
  have HC2 := Aside0.mk H
  clear H
  go_enter Try.func46, Try.ntmps46
  go_upto_region 1 with (fail)
  go_cut [17] (fun v17 wc => ∃ (kq : Nat) (x17_1 : Bool), v17 = .bool x17_1 ∧ Aside0 (spec_NameOk.j0 kq a0 x17_1 = some r) ∧ Aside0 (kq ≤ k) ∧ Drawn0 w wc)
  case first =>
    have H := HC2.out
    clear HC2
    by_cases c3 : (a0.size : Int) < 1
    · rw [if_pos c3] at H
      have c3b0 : decide ((a0.size : Int) < 1) = true := decide_eq_true c3
      have c3b1 : decide (a0.size < 1) = true := decide_eq_true (by omega)
      clear c3
      (first | rw [c3b0] | (simp only [i64_w, i32_w]; rw [c3b0]) | skip)
      have H' := Aside0.mk H
      clear H
      go_wp2
      go_meet
      case rel => exact ⟨_, (true), (by first | rfl | (simp; done) | (simp [*]; done)), H', ⟨by first | omega | exact Nat.le_refl _⟩, by repeat (first | exact Drawn0.refl _ | apply Drawn0.step)⟩
    · rw [if_neg c3] at H
      have c3b0 : decide ((a0.size : Int) < 1) = false := decide_eq_false c3
      have c3b1 : decide (a0.size < 1) = false := decide_eq_false (by omega)
      clear c3
      (first | rw [c3b0] | (simp only [i64_w, i32_w]; rw [c3b0]) | skip)
      by_cases c4 : (a0.size : Int) > 60
      · rw [if_pos c4] at H
        have c4b0 : decide (60 < (a0.size : Int)) = true := decide_eq_true c4
        have c4b1 : decide (60 < a0.size) = true := decide_eq_true (by omega)
        clear c4
        have H' := Aside0.mk H
        clear H
        go_wp2
        go_meet
        case rel => exact ⟨_, (true), (by first | rfl | (simp; done) | (simp [*]; done)), H', ⟨by first | omega | exact Nat.le_refl _⟩, by repeat (first | exact Drawn0.refl _ | apply Drawn0.step)⟩
      · rw [if_neg c4] at H
        have c4b0 : decide (60 < (a0.size : Int)) = false := decide_eq_false c4
        have c4b1 : decide (60 < a0.size) = false := decide_eq_false (by omega)
        clear c4
        by_cases c5 : 0 < (a0.size : Int)
        · rw [if_pos c5] at H
          have c5b0 : decide (0 < (a0.size : Int)) = true := decide_eq_true c5
          have c5b1 : decide (0 < a0.size) = true := decide_eq_true (by omega)
          clear c5
          have H' := Aside0.mk H
          clear H
          have p6 : 0 ≤ (0 : Int) := (by omega)
          have q6 : 0 < a0.size := (by have : (0 : Int) < (a0.size : Int) := of_decide_eq_true (by first | (with_reducible assumption) | assumption); omega)
          have hx6 : ∀ h : 0 < a0.size, ((a0[0]'h).toNat : Int) = bt a0 0 := bt_at a0 0
          clear p6
          have qi6 : (0 < (a0.size : Int)) = True := eq_true (of_decide_eq_true (by first | (with_reducible assumption) | assumption))
          replace q6 := eq_true q6
          go_wp2
          go_meet
          case rel => exact ⟨_, (((bt a0 0) == 46)), (by first | rfl | (simp; done) | (simp [*]; done)), H', ⟨by first | omega | exact Nat.le_refl _⟩, by repeat (first | exact Drawn0.refl _ | apply Drawn0.step)⟩
        · rw [if_neg c5] at H
          exact absurd H (by simp)
  case rest =>
    clear HC2
    try clear p2
    try clear c3
    try clear c3b0
    try clear c3b1
    try clear c4
    try clear c4b0
    try clear c4b1
    try clear c5
    try clear c5b0
    try clear c5b1
    try clear p6
    try clear q6
    try clear hx6
    try clear qi6
    try clear p6
    try clear q6
    obtain ⟨kq, x17_1, rfl, HA, HJ1, ⟨mc1, rfl⟩⟩ := hcut
    cases kq with
    | zero => exact absurd HA.out (by simp [spec_NameOk.j0])
    | succ kj1 =>
      have H := HA.out
      clear HA
      simp only [spec_NameOk.j0] at H
      by_cases c7 : x17_1 = true
      · subst c7
        have H1 : (some false) = some r := by rw [if_pos rfl] at H; exact H
        clear H
        have H := H1
        clear H1
        obtain rfl := Option.some.inj H
        go_wp2
        go_ret
        exact ⟨by first | rfl | (simp; done) | (simp [*]; done), by repeat (first | exact Drawn0.refl _ | apply Drawn0.step)⟩
      · replace c7 := Bool.eq_false_iff.mpr c7
        subst c7
        have H1 : (spec_NameOk.l0 kj1 a0 0) = some r := by rw [if_neg (show ¬ (false = true) by decide)] at H; exact H
        clear H
        have H := H1
        clear H1
        have H' := Aside0.mk H
        clear H
        go_wp2
        go_loopg [3] kj1 (fun kq v3 w' => ∃ (x3_2 : Int), v3 = .int .i64 x3_2 ∧ Aside0 (spec_NameOk.l0 kq a0 x3_2 = some r) ∧ Aside0 (kq ≤ kj1) ∧ Drawn0 w w')
        case atStart => exact ⟨(0), (by first | rfl | (simp; done) | (simp [*]; done)), H', ⟨Nat.le_refl _⟩, by repeat (first | exact Drawn0.refl _ | apply Drawn0.step)⟩
        case round =>
          clear H'
          try clear c1
          try clear p2
          try clear c3
          try clear c3b0
          try clear c3b1
          try clear c4
          try clear c4b0
          try clear c4b1
          try clear c5
          try clear c5b0
          try clear c5b1
          try clear p6
          try clear q6
          try clear hx6
          try clear qi6
          try clear c7
          try clear p2
          try clear p6
          try clear q6
          obtain ⟨x3_2, rfl, HA, HK2, ⟨m2, rfl⟩⟩ := hrel
          cases gk with
          | zero => exact absurd HA.out (by simp [spec_NameOk.l0])
          | succ k2 =>
            have H := HA.out
            clear HA
            simp only [spec_NameOk.l0] at H
            by_cases c8 : x3_2 < (a0.size : Int)
            · rw [if_pos c8] at H
              have c8b0 : decide (x3_2 < (a0.size : Int)) = true := decide_eq_true c8
              clear c8
              by_cases c9 : 0 ≤ x3_2
              · rw [if_pos c9] at H
                have c9b0 : decide (0 ≤ x3_2) = true := decide_eq_true c9
                clear c9
                replace H := Option.bind_eq_some_iff.mp H
                obtain ⟨t101, A110, H⟩ := H
                replace H : (if t101 = true then (spec_NameOk.l0 k2 a0 (wrap64 (x3_2 + 1))) else ((spec_l1Digit.f (bt a0 x3_2)).bind fun t102 => (if t102 = true then (spec_NameOk.l0 k2 a0 (wrap64 (x3_2 + 1))) else (if (bt a0 x3_2) = 45 then (spec_NameOk.l0 k2 a0 (wrap64 (x3_2 + 1))) else (if (bt a0 x3_2) = 95 then (spec_NameOk.l0 k2 a0 (wrap64 (x3_2 + 1))) else (if (bt a0 x3_2) = 46 then (spec_NameOk.l0 k2 a0 (wrap64 (x3_2 + 1))) else (if (bt a0 x3_2) = 43 then (spec_NameOk.l0 k2 a0 (wrap64 (x3_2 + 1))) else (some false)))))))) = some r := H
                have A11 := Aside0.mk A110
                clear A110
                by_cases c12 : t101 = true
                · subst c12
                  have H1 : (spec_NameOk.l0 k2 a0 (wrap64 (x3_2 + 1))) = some r := by rw [if_pos rfl] at H; exact H
                  clear H
                  have H := H1
                  clear H1
                  have H' := Aside0.mk H
                  clear H
                  have p10 : 0 ≤ (x3_2 : Int) := of_decide_eq_true (by first | (with_reducible assumption) | assumption)
                  have q10 : x3_2 < (a0.size : Int) := of_decide_eq_true (by first | (with_reducible assumption) | assumption)
                  have hx10 := bt_at a0 x3_2
                  replace p10 := eq_true p10
                  replace q10 := eq_true q10
                  go_wp2_with (first | ((with_reducible refine gate_callee (f := 70) rfl ?_); refine goesL_ (some 28) rfl rfl Try.func70 (by kernel_rfl) rfl #[.int .u8 (bt a0 x3_2)] rfl (by (try simp only [List.map_toArray, List.map_cons, List.map_nil]); first | done | rfl | (simp only [List.length_drop, List.length_take]; rfl)) ?_; (with_reducible refine (spec_l1Letter.calls (bt a0 x3_2) true _ A11.out).mono ?_); rintro e w' ⟨rfl, ⟨nd, rfl⟩⟩; refine ⟨_, rfl, ?_⟩))
                  go_roundg k2
                  case measure => have := HJ1.out; have := HK2.out; omega
                  case rel => exact ⟨(wrap64 (x3_2 + 1)), (by first | rfl | (simp; done) | (simp [*]; done)), H', ⟨by have := HJ1.out; have := HK2.out; omega⟩, by repeat (first | exact Drawn0.refl _ | apply Drawn0.step)⟩
                · replace c12 := Bool.eq_false_iff.mpr c12
                  subst c12
                  have H1 : ((spec_l1Digit.f (bt a0 x3_2)).bind fun t102 => (if t102 = true then (spec_NameOk.l0 k2 a0 (wrap64 (x3_2 + 1))) else (if (bt a0 x3_2) = 45 then (spec_NameOk.l0 k2 a0 (wrap64 (x3_2 + 1))) else (if (bt a0 x3_2) = 95 then (spec_NameOk.l0 k2 a0 (wrap64 (x3_2 + 1))) else (if (bt a0 x3_2) = 46 then (spec_NameOk.l0 k2 a0 (wrap64 (x3_2 + 1))) else (if (bt a0 x3_2) = 43 then (spec_NameOk.l0 k2 a0 (wrap64 (x3_2 + 1))) else (some false))))))) = some r := by rw [if_neg (show ¬ (false = true) by decide)] at H; exact H
                  clear H
                  have H := H1
                  clear H1
                  replace H := Option.bind_eq_some_iff.mp H
                  obtain ⟨t102, A130, H⟩ := H
                  replace H : (if t102 = true then (spec_NameOk.l0 k2 a0 (wrap64 (x3_2 + 1))) else (if (bt a0 x3_2) = 45 then (spec_NameOk.l0 k2 a0 (wrap64 (x3_2 + 1))) else (if (bt a0 x3_2) = 95 then (spec_NameOk.l0 k2 a0 (wrap64 (x3_2 + 1))) else (if (bt a0 x3_2) = 46 then (spec_NameOk.l0 k2 a0 (wrap64 (x3_2 + 1))) else (if (bt a0 x3_2) = 43 then (spec_NameOk.l0 k2 a0 (wrap64 (x3_2 + 1))) else (some false)))))) = some r := H
                  have A13 := Aside0.mk A130
                  clear A130
                  by_cases c14 : t102 = true
                  · subst c14
                    have H1 : (spec_NameOk.l0 k2 a0 (wrap64 (x3_2 + 1))) = some r := by rw [if_pos rfl] at H; exact H
                    clear H
                    have H := H1
                    clear H1
                    have H' := Aside0.mk H
                    clear H
                    have p10 : 0 ≤ (x3_2 : Int) := of_decide_eq_true (by first | (with_reducible assumption) | assumption)
                    have q10 : x3_2 < (a0.size : Int) := of_decide_eq_true (by first | (with_reducible assumption) | assumption)
                    have hx10 := bt_at a0 x3_2
                    replace p10 := eq_true p10
                    replace q10 := eq_true q10
                    go_wp2_with (first | ((with_reducible refine gate_callee (f := 70) rfl ?_); refine goesL_ (some 28) rfl rfl Try.func70 (by kernel_rfl) rfl #[.int .u8 (bt a0 x3_2)] rfl (by (try simp only [List.map_toArray, List.map_cons, List.map_nil]); first | done | rfl | (simp only [List.length_drop, List.length_take]; rfl)) ?_; (with_reducible refine (spec_l1Letter.calls (bt a0 x3_2) false _ A11.out).mono ?_); rintro e w' ⟨rfl, ⟨nd, rfl⟩⟩; refine ⟨_, rfl, ?_⟩) | (go_at_call 71; (with_reducible refine (spec_l1Digit.calls (bt a0 x3_2) true _ A13.out).mono ?_); rintro e w' ⟨rfl, ⟨nd, rfl⟩⟩))
                    go_roundg k2
                    case measure => have := HJ1.out; have := HK2.out; omega
                    case rel => exact ⟨(wrap64 (x3_2 + 1)), (by first | rfl | (simp; done) | (simp [*]; done)), H', ⟨by have := HJ1.out; have := HK2.out; omega⟩, by repeat (first | exact Drawn0.refl _ | apply Drawn0.step)⟩
                  · replace c14 := Bool.eq_false_iff.mpr c14
                    subst c14
                    have H1 : (if (bt a0 x3_2) = 45 then (spec_NameOk.l0 k2 a0 (wrap64 (x3_2 + 1))) else (if (bt a0 x3_2) = 95 then (spec_NameOk.l0 k2 a0 (wrap64 (x3_2 + 1))) else (if (bt a0 x3_2) = 46 then (spec_NameOk.l0 k2 a0 (wrap64 (x3_2 + 1))) else (if (bt a0 x3_2) = 43 then (spec_NameOk.l0 k2 a0 (wrap64 (x3_2 + 1))) else (some false))))) = some r := by rw [if_neg (show ¬ (false = true) by decide)] at H; exact H
                    clear H
                    have H := H1
                    clear H1
                    by_cases c15 : (bt a0 x3_2) = 45
                    · rw [if_pos c15] at H
                      have c15b0 : ((bt a0 x3_2) == 45) = true := beq_iff_eq.mpr c15
                      have c15b1 : ((bt a0 x3_2) != 45) = false := bne_eq_false_iff_eq.mpr c15
                      clear c15
                      have H' := Aside0.mk H
                      clear H
                      have p10 : 0 ≤ (x3_2 : Int) := of_decide_eq_true (by first | (with_reducible assumption) | assumption)
                      have q10 : x3_2 < (a0.size : Int) := of_decide_eq_true (by first | (with_reducible assumption) | assumption)
                      have hx10 := bt_at a0 x3_2
                      replace p10 := eq_true p10
                      replace q10 := eq_true q10
                      go_wp2_with (first | ((with_reducible refine gate_callee (f := 70) rfl ?_); refine goesL_ (some 28) rfl rfl Try.func70 (by kernel_rfl) rfl #[.int .u8 (bt a0 x3_2)] rfl (by (try simp only [List.map_toArray, List.map_cons, List.map_nil]); first | done | rfl | (simp only [List.length_drop, List.length_take]; rfl)) ?_; (with_reducible refine (spec_l1Letter.calls (bt a0 x3_2) false _ A11.out).mono ?_); rintro e w' ⟨rfl, ⟨nd, rfl⟩⟩; refine ⟨_, rfl, ?_⟩) | (go_at_call 71; (with_reducible refine (spec_l1Digit.calls (bt a0 x3_2) false _ A13.out).mono ?_); rintro e w' ⟨rfl, ⟨nd, rfl⟩⟩))
                      go_roundg k2
                      case measure => have := HJ1.out; have := HK2.out; omega
                      case rel => exact ⟨(wrap64 (x3_2 + 1)), (by first | rfl | (simp; done) | (simp [*]; done)), H', ⟨by have := HJ1.out; have := HK2.out; omega⟩, by repeat (first | exact Drawn0.refl _ | apply Drawn0.step)⟩
                    · rw [if_neg c15] at H
                      have c15b0 : ((bt a0 x3_2) == 45) = false := beq_eq_false_iff_ne.mpr c15
                      have c15b1 : ((bt a0 x3_2) != 45) = true := bne_iff_ne.mpr c15
                      by_cases c16 : (bt a0 x3_2) = 95
                      · rw [if_pos c16] at H
                        have c16b0 : ((bt a0 x3_2) == 95) = true := beq_iff_eq.mpr c16
                        have c16b1 : ((bt a0 x3_2) != 95) = false := bne_eq_false_iff_eq.mpr c16
                        clear c16
                        have H' := Aside0.mk H
                        clear H
                        have p10 : 0 ≤ (x3_2 : Int) := of_decide_eq_true (by first | (with_reducible assumption) | assumption)
                        have q10 : x3_2 < (a0.size : Int) := of_decide_eq_true (by first | (with_reducible assumption) | assumption)
                        have hx10 := bt_at a0 x3_2
                        replace p10 := eq_true p10
                        replace q10 := eq_true q10
                        go_wp2_with (first | ((with_reducible refine gate_callee (f := 70) rfl ?_); refine goesL_ (some 28) rfl rfl Try.func70 (by kernel_rfl) rfl #[.int .u8 (bt a0 x3_2)] rfl (by (try simp only [List.map_toArray, List.map_cons, List.map_nil]); first | done | rfl | (simp only [List.length_drop, List.length_take]; rfl)) ?_; (with_reducible refine (spec_l1Letter.calls (bt a0 x3_2) false _ A11.out).mono ?_); rintro e w' ⟨rfl, ⟨nd, rfl⟩⟩; refine ⟨_, rfl, ?_⟩) | (go_at_call 71; (with_reducible refine (spec_l1Digit.calls (bt a0 x3_2) false _ A13.out).mono ?_); rintro e w' ⟨rfl, ⟨nd, rfl⟩⟩))
                        go_roundg k2
                        case measure => have := HJ1.out; have := HK2.out; omega
                        case rel => exact ⟨(wrap64 (x3_2 + 1)), (by first | rfl | (simp; done) | (simp [*]; done)), H', ⟨by have := HJ1.out; have := HK2.out; omega⟩, by repeat (first | exact Drawn0.refl _ | apply Drawn0.step)⟩
                      · rw [if_neg c16] at H
                        have c16b0 : ((bt a0 x3_2) == 95) = false := beq_eq_false_iff_ne.mpr c16
                        have c16b1 : ((bt a0 x3_2) != 95) = true := bne_iff_ne.mpr c16
                        by_cases c17 : (bt a0 x3_2) = 46
                        · rw [if_pos c17] at H
                          have c17b0 : ((bt a0 x3_2) == 46) = true := beq_iff_eq.mpr c17
                          have c17b1 : ((bt a0 x3_2) != 46) = false := bne_eq_false_iff_eq.mpr c17
                          clear c17
                          have H' := Aside0.mk H
                          clear H
                          have p10 : 0 ≤ (x3_2 : Int) := of_decide_eq_true (by first | (with_reducible assumption) | assumption)
                          have q10 : x3_2 < (a0.size : Int) := of_decide_eq_true (by first | (with_reducible assumption) | assumption)
                          have hx10 := bt_at a0 x3_2
                          replace p10 := eq_true p10
                          replace q10 := eq_true q10
                          go_wp2_with (first | ((with_reducible refine gate_callee (f := 70) rfl ?_); refine goesL_ (some 28) rfl rfl Try.func70 (by kernel_rfl) rfl #[.int .u8 (bt a0 x3_2)] rfl (by (try simp only [List.map_toArray, List.map_cons, List.map_nil]); first | done | rfl | (simp only [List.length_drop, List.length_take]; rfl)) ?_; (with_reducible refine (spec_l1Letter.calls (bt a0 x3_2) false _ A11.out).mono ?_); rintro e w' ⟨rfl, ⟨nd, rfl⟩⟩; refine ⟨_, rfl, ?_⟩) | (go_at_call 71; (with_reducible refine (spec_l1Digit.calls (bt a0 x3_2) false _ A13.out).mono ?_); rintro e w' ⟨rfl, ⟨nd, rfl⟩⟩))
                          go_roundg k2
                          case measure => have := HJ1.out; have := HK2.out; omega
                          case rel => exact ⟨(wrap64 (x3_2 + 1)), (by first | rfl | (simp; done) | (simp [*]; done)), H', ⟨by have := HJ1.out; have := HK2.out; omega⟩, by repeat (first | exact Drawn0.refl _ | apply Drawn0.step)⟩
                        · rw [if_neg c17] at H
                          have c17b0 : ((bt a0 x3_2) == 46) = false := beq_eq_false_iff_ne.mpr c17
                          have c17b1 : ((bt a0 x3_2) != 46) = true := bne_iff_ne.mpr c17
                          by_cases c18 : (bt a0 x3_2) = 43
                          · rw [if_pos c18] at H
                            have c18b0 : ((bt a0 x3_2) == 43) = true := beq_iff_eq.mpr c18
                            have c18b1 : ((bt a0 x3_2) != 43) = false := bne_eq_false_iff_eq.mpr c18
                            clear c18
                            have H' := Aside0.mk H
                            clear H
                            have p10 : 0 ≤ (x3_2 : Int) := of_decide_eq_true (by first | (with_reducible assumption) | assumption)
                            have q10 : x3_2 < (a0.size : Int) := of_decide_eq_true (by first | (with_reducible assumption) | assumption)
                            have hx10 := bt_at a0 x3_2
                            replace p10 := eq_true p10
                            replace q10 := eq_true q10
                            go_wp2_with (first | ((with_reducible refine gate_callee (f := 70) rfl ?_); refine goesL_ (some 28) rfl rfl Try.func70 (by kernel_rfl) rfl #[.int .u8 (bt a0 x3_2)] rfl (by (try simp only [List.map_toArray, List.map_cons, List.map_nil]); first | done | rfl | (simp only [List.length_drop, List.length_take]; rfl)) ?_; (with_reducible refine (spec_l1Letter.calls (bt a0 x3_2) false _ A11.out).mono ?_); rintro e w' ⟨rfl, ⟨nd, rfl⟩⟩; refine ⟨_, rfl, ?_⟩) | (go_at_call 71; (with_reducible refine (spec_l1Digit.calls (bt a0 x3_2) false _ A13.out).mono ?_); rintro e w' ⟨rfl, ⟨nd, rfl⟩⟩))
                            go_roundg k2
                            case measure => have := HJ1.out; have := HK2.out; omega
                            case rel => exact ⟨(wrap64 (x3_2 + 1)), (by first | rfl | (simp; done) | (simp [*]; done)), H', ⟨by have := HJ1.out; have := HK2.out; omega⟩, by repeat (first | exact Drawn0.refl _ | apply Drawn0.step)⟩
                          · rw [if_neg c18] at H
                            have c18b0 : ((bt a0 x3_2) == 43) = false := beq_eq_false_iff_ne.mpr c18
                            have c18b1 : ((bt a0 x3_2) != 43) = true := bne_iff_ne.mpr c18
                            obtain rfl := Option.some.inj H
                            have p10 : 0 ≤ (x3_2 : Int) := of_decide_eq_true (by first | (with_reducible assumption) | assumption)
                            have q10 : x3_2 < (a0.size : Int) := of_decide_eq_true (by first | (with_reducible assumption) | assumption)
                            have hx10 := bt_at a0 x3_2
                            replace p10 := eq_true p10
                            replace q10 := eq_true q10
                            go_wp2_with (first | ((with_reducible refine gate_callee (f := 70) rfl ?_); refine goesL_ (some 28) rfl rfl Try.func70 (by kernel_rfl) rfl #[.int .u8 (bt a0 x3_2)] rfl (by (try simp only [List.map_toArray, List.map_cons, List.map_nil]); first | done | rfl | (simp only [List.length_drop, List.length_take]; rfl)) ?_; (with_reducible refine (spec_l1Letter.calls (bt a0 x3_2) false _ A11.out).mono ?_); rintro e w' ⟨rfl, ⟨nd, rfl⟩⟩; refine ⟨_, rfl, ?_⟩) | (go_at_call 71; (with_reducible refine (spec_l1Digit.calls (bt a0 x3_2) false _ A13.out).mono ?_); rintro e w' ⟨rfl, ⟨nd, rfl⟩⟩))
                            go_ret
                            exact ⟨by first | rfl | (simp; done) | (simp [*]; done), by repeat (first | exact Drawn0.refl _ | apply Drawn0.step)⟩
              · rw [if_neg c9] at H
                exact absurd H (by simp)
            · rw [if_neg c8] at H
              have c8b0 : decide (x3_2 < (a0.size : Int)) = false := decide_eq_false c8
              clear c8
              obtain rfl := Option.some.inj H
              go_wp2
              go_ret
              exact ⟨by first | rfl | (simp; done) | (simp [*]; done), by repeat (first | exact Drawn0.refl _ | apply Drawn0.step)⟩
end Go.Proofs.Ytnjmhlhlmokjnaa.G
namespace Go.Proofs.Ytnjmhlhlmokjnaa.G
open Go.RowKit Go.Proofs.YtnjmhlhlmokjnaaW.PrintWords Go.Proofs.YtnjmhlhlmokjnaaW.PrintLast Go.Proofs.YtnjmhlhlmokjnaaW.PrintMore
attribute [local go_sem] max2_int min2_int max_two min_two max_three min_three max_four min_four
set_option linter.unusedVariables false
set_option linter.unusedSimpArgs false
def spec_l8Names.l0 : Nat → List ByteArray → Int → Option (Bool)
  | 0, _, _ => none
  | k + 1, x0, x3 => if x3 < (x0.length : Int) then (if 0 ≤ x3 then ((spec_NameOk.f k (rdOf ByteArray.empty x0 x3)).bind fun t106 => (if t106 = true then (spec_l8Names.l0 k x0 (wrap64 (x3 + 1))) else (some false))) else (none)) else (some (decide ((x0.length : Int) ≤ 2000)))
def spec_l8Names.f (k : Nat) (l0 : List ByteArray) : Option (Bool) := spec_l8Names.l0 k l0 0
set_option maxHeartbeats 8000000 in
set_option maxRecDepth 100000 in
theorem spec_l8Names.calls (k : Nat) (A0 : Option Addr) (c0 : Nat) (l0 : List ByteArray) (r : Bool) (w : World) (hr0 : Kd.C Kd.string w A0 l0.length l0) (hc0 : l0.length ≤ c0) (h : spec_l8Names.f k l0 = some r) :
    Calls Try.prog 48 #[.slice A0 l0.length c0] w fun e w' => e = .returned (.bool r) ∧ Drawn0 w w' := by
  have HR0 := Aside0.mk hr0
  have HC0 := Aside0.mk hc0
  clear hr0 hc0
  have H : (spec_l8Names.l0 k l0 0) = some r := h
  clear h
  have H' := Aside0.mk H
  clear H
  go_enter Try.func48, Try.ntmps48
  go_wp2
  go_loopg [3] k (fun kq v3 w' => ∃ (x3_1 : Int), v3 = .int .i64 x3_1 ∧ Aside0 (spec_l8Names.l0 kq l0 x3_1 = some r) ∧ Aside0 (kq ≤ k) ∧ Drawn0 w w')
  case atStart => exact ⟨(0), (by first | rfl | (simp; done) | (simp [*]; done)), H', ⟨Nat.le_refl _⟩, by repeat (first | exact Drawn0.refl _ | apply Drawn0.step)⟩
  case round =>
    clear H'
    obtain ⟨x3_1, rfl, HA, HK1, ⟨m1, rfl⟩⟩ := hrel
    cases gk with
    | zero => exact absurd HA.out (by simp [spec_l8Names.l0])
    | succ k1 =>
      have H := HA.out
      clear HA
      simp only [spec_l8Names.l0] at H
      by_cases c2 : x3_1 < (l0.length : Int)
      · rw [if_pos c2] at H
        have c2b0 : decide (x3_1 < (l0.length : Int)) = true := decide_eq_true c2
        clear c2
        by_cases c3 : 0 ≤ x3_1
        · rw [if_pos c3] at H
          have c3b0 : decide (0 ≤ x3_1) = true := decide_eq_true c3
          clear c3
          replace H := Option.bind_eq_some_iff.mp H
          obtain ⟨t106, A40, H⟩ := H
          replace H : (if t106 = true then (spec_l8Names.l0 k1 l0 (wrap64 (x3_1 + 1))) else (some false)) = some r := H
          have A4 := Aside0.mk A40
          clear A40
          by_cases c5 : t106 = true
          · subst c5
            have H1 : (spec_l8Names.l0 k1 l0 (wrap64 (x3_1 + 1))) = some r := by rw [if_pos rfl] at H; exact H
            clear H
            have H := H1
            clear H1
            have H' := Aside0.mk H
            clear H
            have p105 : 0 ≤ (x3_1 : Int) := of_decide_eq_true (by first | (with_reducible assumption) | assumption)
            have q105 : x3_1 < (l0.length : Int) := of_decide_eq_true (by first | (with_reducible assumption) | assumption)
            obtain ⟨ad105, e105, hx105_0⟩ := Kd.at_string HR0.out x3_1 p105 q105
            cases e105
            replace p105 := eq_true p105
            replace q105 := eq_true q105
            go_wp2_with (first | ((with_reducible refine gate_callee (f := 46) rfl ?_); refine goesL_ (some 14) rfl rfl Try.func46 (by kernel_rfl) rfl #[.string (rdOf ByteArray.empty l0 x3_1)] rfl (by (try simp only [List.map_toArray, List.map_cons, List.map_nil]); first | done | rfl | (simp only [List.length_drop, List.length_take]; rfl)) ?_; (with_reducible refine (spec_NameOk.calls k1 (rdOf ByteArray.empty l0 x3_1) true _ A4.out).mono ?_); rintro e w' ⟨rfl, ⟨nd, rfl⟩⟩; refine ⟨_, rfl, ?_⟩))
            go_roundg k1
            case measure => have := HK1.out; omega
            case rel => exact ⟨(wrap64 (x3_1 + 1)), (by first | rfl | (simp; done) | (simp [*]; done)), H', ⟨by have := HK1.out; omega⟩, by repeat (first | exact Drawn0.refl _ | apply Drawn0.step)⟩
          · replace c5 := Bool.eq_false_iff.mpr c5
            subst c5
            have H1 : (some false) = some r := by rw [if_neg (show ¬ (false = true) by decide)] at H; exact H
            clear H
            have H := H1
            clear H1
            obtain rfl := Option.some.inj H
            have p105 : 0 ≤ (x3_1 : Int) := of_decide_eq_true (by first | (with_reducible assumption) | assumption)
            have q105 : x3_1 < (l0.length : Int) := of_decide_eq_true (by first | (with_reducible assumption) | assumption)
            obtain ⟨ad105, e105, hx105_0⟩ := Kd.at_string HR0.out x3_1 p105 q105
            cases e105
            replace p105 := eq_true p105
            replace q105 := eq_true q105
            go_wp2_with (first | ((with_reducible refine gate_callee (f := 46) rfl ?_); refine goesL_ (some 14) rfl rfl Try.func46 (by kernel_rfl) rfl #[.string (rdOf ByteArray.empty l0 x3_1)] rfl (by (try simp only [List.map_toArray, List.map_cons, List.map_nil]); first | done | rfl | (simp only [List.length_drop, List.length_take]; rfl)) ?_; (with_reducible refine (spec_NameOk.calls k1 (rdOf ByteArray.empty l0 x3_1) false _ A4.out).mono ?_); rintro e w' ⟨rfl, ⟨nd, rfl⟩⟩; refine ⟨_, rfl, ?_⟩))
            go_ret
            exact ⟨by first | rfl | (simp; done) | (simp [*]; done), by repeat (first | exact Drawn0.refl _ | apply Drawn0.step)⟩
        · rw [if_neg c3] at H
          exact absurd H (by simp)
      · rw [if_neg c2] at H
        have c2b0 : decide (x3_1 < (l0.length : Int)) = false := decide_eq_false c2
        clear c2
        obtain rfl := Option.some.inj H
        go_wp2
        go_ret
        exact ⟨by first | rfl | (simp; done) | (simp [*]; done), by repeat (first | exact Drawn0.refl _ | apply Drawn0.step)⟩
end Go.Proofs.Ytnjmhlhlmokjnaa.G
namespace Go.Proofs.Ytnjmhlhlmokjnaa.G
open Go.RowKit Go.Proofs.YtnjmhlhlmokjnaaW.PrintWords Go.Proofs.YtnjmhlhlmokjnaaW.PrintLast Go.Proofs.YtnjmhlhlmokjnaaW.PrintMore
attribute [local go_sem] max2_int min2_int max_two min_two max_three min_three max_four min_four
set_option linter.unusedVariables false
set_option linter.unusedSimpArgs false
def spec_l17Ascending.l0 : Nat → List ByteArray → Int → Option (Bool)
  | 0, _, _ => none
  | k + 1, x0, x3 => if x3 < (x0.length : Int) then (if 0 ≤ (wrap64 (x3 - 1)) then (if (wrap64 (x3 - 1)) < (x0.length : Int) then (if 0 ≤ x3 then (if ((Op.bytesLess ((rdOf ByteArray.empty x0 (wrap64 (x3 - 1))).toList) ((rdOf ByteArray.empty x0 x3).toList)) = true) then (spec_l17Ascending.l0 k x0 (wrap64 (x3 + 1))) else (some false)) else (none)) else (none)) else (none)) else (some (decide ((x0.length : Int) ≤ 20)))
def spec_l17Ascending.f (k : Nat) (l0 : List ByteArray) : Option (Bool) := spec_l17Ascending.l0 k l0 1
set_option maxHeartbeats 8000000 in
set_option maxRecDepth 100000 in
theorem spec_l17Ascending.calls (k : Nat) (A0 : Option Addr) (c0 : Nat) (l0 : List ByteArray) (r : Bool) (w : World) (hr0 : Kd.C Kd.string w A0 l0.length l0) (hc0 : l0.length ≤ c0) (h : spec_l17Ascending.f k l0 = some r) :
    Calls Try.prog 47 #[.slice A0 l0.length c0] w fun e w' => e = .returned (.bool r) ∧ Drawn0 w w' := by
  have HR0 := Aside0.mk hr0
  have HC0 := Aside0.mk hc0
  clear hr0 hc0
  have H : (spec_l17Ascending.l0 k l0 1) = some r := h
  clear h
  have H' := Aside0.mk H
  clear H
  go_enter Try.func47, Try.ntmps47
  go_wp2
  repeat (go_quiet (fail); try go_wp2)
  go_loopg [3] k (fun kq v3 w' => ∃ (x3_1 : Int), v3 = .int .i64 x3_1 ∧ Aside0 (spec_l17Ascending.l0 kq l0 x3_1 = some r) ∧ Aside0 (kq ≤ k) ∧ Drawn0 w w')
  case atStart => exact ⟨(1), (by first | rfl | (simp; done) | (simp [*]; done)), H', ⟨Nat.le_refl _⟩, by repeat (first | exact Drawn0.refl _ | apply Drawn0.step)⟩
  case round =>
    clear H'
    obtain ⟨x3_1, rfl, HA, HK1, ⟨m1, rfl⟩⟩ := hrel
    cases gk with
    | zero => exact absurd HA.out (by simp [spec_l17Ascending.l0])
    | succ k1 =>
      have H := HA.out
      clear HA
      simp only [spec_l17Ascending.l0] at H
      by_cases c2 : x3_1 < (l0.length : Int)
      · rw [if_pos c2] at H
        have c2b0 : decide (x3_1 < (l0.length : Int)) = true := decide_eq_true c2
        clear c2
        obtain ⟨ji3, hji3⟩ : ∃ j_ : Int, (wrap64 (x3_1 - 1)) = j_ := ⟨_, rfl⟩
        replace H : (if 0 ≤ (ji3) then (if (ji3) < (l0.length : Int) then (if 0 ≤ x3_1 then (if ((Op.bytesLess ((rdOf ByteArray.empty l0 (ji3)).toList) ((rdOf ByteArray.empty l0 x3_1).toList)) = true) then (spec_l17Ascending.l0 k1 l0 (wrap64 (x3_1 + 1))) else (some false)) else (none)) else (none)) else (none)) = some r := by first | (rw [hji3] at H; exact H) | (simp only [hji3] at H ⊢; exact H)
        have hji3w : (IntKind.i64.wrap (x3_1 - 1)) = ji3 := (i64_w _).trans hji3
        by_cases c4 : 0 ≤ (ji3)
        · rw [if_pos c4] at H
          have c4b0 : decide (0 ≤ (ji3)) = true := decide_eq_true c4
          clear c4
          by_cases c5 : (ji3) < (l0.length : Int)
          · rw [if_pos c5] at H
            have c5b0 : decide ((ji3) < (l0.length : Int)) = true := decide_eq_true c5
            clear c5
            by_cases c6 : 0 ≤ x3_1
            · rw [if_pos c6] at H
              have c6b0 : decide (0 ≤ x3_1) = true := decide_eq_true c6
              clear c6
              by_cases c7 : ((Op.bytesLess ((rdOf ByteArray.empty l0 (ji3)).toList) ((rdOf ByteArray.empty l0 x3_1).toList)) = true)
              · rw [if_pos c7] at H
                have c7b0 : (Op.bytesLess ((rdOf ByteArray.empty l0 (ji3)).toList) ((rdOf ByteArray.empty l0 x3_1).toList)) = true := c7
                clear c7
                have H' := Aside0.mk H
                clear H
                have p103 : 0 ≤ ((ji3) : Int) := of_decide_eq_true (by first | (with_reducible assumption) | assumption)
                have q103 : (ji3) < (l0.length : Int) := of_decide_eq_true (by first | (with_reducible assumption) | assumption)
                obtain ⟨ad103, e103, hx103_0⟩ := Kd.at_string HR0.out (ji3) p103 q103
                cases e103
                replace p103 := eq_true p103
                replace q103 := eq_true q103
                have p104 : 0 ≤ (x3_1 : Int) := of_decide_eq_true (by first | (with_reducible assumption) | assumption)
                have q104 : x3_1 < (l0.length : Int) := of_decide_eq_true (by first | (with_reducible assumption) | assumption)
                obtain ⟨ad104, e104, hx104_0⟩ := Kd.at_string HR0.out x3_1 p104 q104
                obtain rfl : ad103 = ad104 := (by injection e104)
                replace p104 := eq_true p104
                replace q104 := eq_true q104
                go_wp2
                repeat (go_quiet (fail); try go_wp2)
                go_roundg k1
                case measure => have := HK1.out; omega
                case rel => exact ⟨(wrap64 (x3_1 + 1)), (by first | rfl | (simp; done) | (simp [*]; done)), H', ⟨by have := HK1.out; omega⟩, by repeat (first | exact Drawn0.refl _ | apply Drawn0.step)⟩
              · rw [if_neg c7] at H
                have c7b0 : (Op.bytesLess ((rdOf ByteArray.empty l0 (ji3)).toList) ((rdOf ByteArray.empty l0 x3_1).toList)) = false := by simpa using c7
                clear c7
                obtain rfl := Option.some.inj H
                have p103 : 0 ≤ ((ji3) : Int) := of_decide_eq_true (by first | (with_reducible assumption) | assumption)
                have q103 : (ji3) < (l0.length : Int) := of_decide_eq_true (by first | (with_reducible assumption) | assumption)
                obtain ⟨ad103, e103, hx103_0⟩ := Kd.at_string HR0.out (ji3) p103 q103
                cases e103
                replace p103 := eq_true p103
                replace q103 := eq_true q103
                have p104 : 0 ≤ (x3_1 : Int) := of_decide_eq_true (by first | (with_reducible assumption) | assumption)
                have q104 : x3_1 < (l0.length : Int) := of_decide_eq_true (by first | (with_reducible assumption) | assumption)
                obtain ⟨ad104, e104, hx104_0⟩ := Kd.at_string HR0.out x3_1 p104 q104
                obtain rfl : ad103 = ad104 := (by injection e104)
                replace p104 := eq_true p104
                replace q104 := eq_true q104
                go_wp2
                repeat (go_quiet (fail); try go_wp2)
                go_ret
                exact ⟨by first | rfl | (simp; done) | (simp only [← hji3] <;> (first | rfl | simp)) | (simp [*]; done), by repeat (first | exact Drawn0.refl _ | apply Drawn0.step)⟩
            · rw [if_neg c6] at H
              exact absurd H (by simp)
          · rw [if_neg c5] at H
            exact absurd H (by simp)
        · rw [if_neg c4] at H
          exact absurd H (by simp)
      · rw [if_neg c2] at H
        have c2b0 : decide (x3_1 < (l0.length : Int)) = false := decide_eq_false c2
        clear c2
        obtain rfl := Option.some.inj H
        go_wp2
        repeat (go_quiet (fail); try go_wp2)
        go_ret
        exact ⟨by first | rfl | (simp; done) | (simp [*]; done), by repeat (first | exact Drawn0.refl _ | apply Drawn0.step)⟩
end Go.Proofs.Ytnjmhlhlmokjnaa.G
namespace Go.Proofs.Ytnjmhlhlmokjnaa.G
open Go.RowKit Go.Proofs.YtnjmhlhlmokjnaaW.PrintWords
theorem wrap_id {i : Int} (h0 : -9223372036854775808 ≤ i) (h1 : i ≤ 9223372036854775807) : wrap64 i = i := by
  unfold wrap64
  omega
theorem wrap32_id {i : Int} (h0 : -2147483648 ≤ i) (h1 : i ≤ 2147483647) : wrap32 i = i := by
  unfold wrap32
  omega
def letterB (c : Int) : Bool := decide (97 ≤ c ∧ c ≤ 122 ∨ 65 ≤ c ∧ c ≤ 90)
def digitB (c : Int) : Bool := decide (48 ≤ c ∧ c ≤ 57)
def markB (c : Int) : Bool := decide (c = 45 ∨ c = 95 ∨ c = 46 ∨ c = 43)
def nameByteB (c : Int) : Bool := letterB c || digitB c || markB c
theorem impl_letter_eq (c : Int) : impl_letter.f c = some (letterB c) := by
  unfold impl_letter.f letterB
  repeat' split
  all_goals (refine congrArg some ?_; first | (symm; apply decide_eq_true; omega) | (symm; apply decide_eq_false; omega) | (apply decide_eq_decide.2; omega))
theorem spec_letter_eq (c : Int) : spec_l1Letter.f c = some (letterB c) := by
  unfold spec_l1Letter.f letterB
  repeat' split
  all_goals (refine congrArg some ?_; first | (symm; apply decide_eq_true; omega) | (symm; apply decide_eq_false; omega) | (apply decide_eq_decide.2; omega))
theorem impl_digit_eq (c : Int) : impl_digit.f c = some (digitB c) := by
  unfold impl_digit.f digitB
  repeat' split
  all_goals (refine congrArg some ?_; first | (symm; apply decide_eq_true; omega) | (symm; apply decide_eq_false; omega) | (apply decide_eq_decide.2; omega))
theorem spec_digit_eq (c : Int) : spec_l1Digit.f c = some (digitB c) := by
  unfold spec_l1Digit.f digitB
  repeat' split
  all_goals (refine congrArg some ?_; first | (symm; apply decide_eq_true; omega) | (symm; apply decide_eq_false; omega) | (apply decide_eq_decide.2; omega))
def bytesFrom (s : ByteArray) : Nat → Nat → Bool
  | _, 0 => true
  | i, d + 1 => nameByteB (bt s i) && bytesFrom s (i + 1) d
def nameOkB (s : ByteArray) : Bool := decide (1 ≤ s.size) && decide (s.size ≤ 60) && !(bt s 0 == 46) && bytesFrom s 0 s.size
theorem contains_eq (s : ByteArray) (i : Int) : strings_ContainsRune.f (⟨#[45, 95, 46, 43]⟩ : ByteArray) (wrap32 (bt s i)) = some (markB (bt s i)) := by
  have h := bt_range s i
  rw [wrap32_id (by omega) (by omega)]
  unfold strings_ContainsRune.f
  rw [if_pos ⟨rfl, h.1, h.2⟩]
  rfl
theorem impl_bytes_ev (s : ByteArray) (hs : s.size ≤ 60) (d : Nat) : ∀ i : Nat, i + d = s.size → Ev (fun k => impl_NameOk.l0 k s (s.size : Int) (i : Int)) (bytesFrom s i d) := by
  induction d with
  | zero =>
    intro i hi
    refine Ev.step (f := fun _ => some true) (fun k => ?_) (Ev.now _)
    rw [impl_NameOk.l0, if_neg (by omega)]
  | succ d ih =>
    intro i hi
    have hx := ih (i + 1) (by omega)
    have hw : wrap64 ((i : Int) + 1) = ((i + 1 : Nat) : Int) := by rw [wrap_id (by omega) (by omega)]; omega
    refine Ev.step (f := fun k => if (letterB (bt s i) || digitB (bt s i) || markB (bt s i)) = true then impl_NameOk.l0 k s (s.size : Int) ((i + 1 : Nat) : Int) else some false) (fun k => ?_) ?_
    · rw [impl_NameOk.l0, if_pos (by omega), if_pos (by omega), if_pos (by omega), impl_letter_eq, impl_digit_eq, contains_eq, hw]
      simp only [Option.bind_some]
      cases letterB (bt s i) <;> cases digitB (bt s i) <;> cases markB (bt s i) <;> rfl
    · simp only [bytesFrom, nameByteB]
      cases letterB (bt s i) || digitB (bt s i) || markB (bt s i)
      · exact Ev.now _
      · exact hx
theorem impl_NameOk_ev (s : ByteArray) : Ev (fun k => impl_NameOk.f k s) (nameOkB s) := by
  have stop : Ev (fun k => impl_NameOk.j0 k s true) false :=
    Ev.step (f := fun _ => some false) (fun k => by rw [impl_NameOk.j0, if_pos rfl]) (Ev.now _)
  unfold nameOkB
  by_cases h1 : s.size < 1
  · refine Ev.congr (f := fun k => impl_NameOk.j0 k s true) (fun k => by rw [impl_NameOk.f, if_pos (by omega)]) ?_
    rw [show decide (1 ≤ s.size) = false from decide_eq_false (by omega)]
    exact stop
  by_cases h2 : s.size > 60
  · refine Ev.congr (f := fun k => impl_NameOk.j0 k s true) (fun k => by rw [impl_NameOk.f, if_neg (by omega), if_pos (by omega)]) ?_
    rw [show decide (s.size ≤ 60) = false from decide_eq_false (by omega), Bool.and_false]
    exact stop
  refine Ev.congr (f := fun k => impl_NameOk.j0 k s (bt s 0 == 46)) (fun k => by rw [impl_NameOk.f, if_neg (by omega), if_neg (by omega), if_pos (by omega)]) ?_
  rw [show decide (1 ≤ s.size) = true from decide_eq_true (by omega), show decide (s.size ≤ 60) = true from decide_eq_true (by omega)]
  cases hb : bt s 0 == 46
  · refine Ev.step (f := fun k => impl_NameOk.l0 k s (s.size : Int) ((0 : Nat) : Int)) (fun k => by rw [impl_NameOk.j0, if_neg (by decide)]; rfl) ?_
    exact impl_bytes_ev s (by omega) s.size 0 (by omega)
  · exact stop
theorem spec_bytes_ev (s : ByteArray) (hs : s.size ≤ 60) (d : Nat) : ∀ i : Nat, i + d = s.size → Ev (fun k => spec_NameOk.l0 k s (i : Int)) (bytesFrom s i d) := by
  induction d with
  | zero =>
    intro i hi
    refine Ev.step (f := fun _ => some true) (fun k => ?_) (Ev.now _)
    rw [spec_NameOk.l0, if_neg (by omega)]
  | succ d ih =>
    intro i hi
    have hx := ih (i + 1) (by omega)
    have hw : wrap64 ((i : Int) + 1) = ((i + 1 : Nat) : Int) := by rw [wrap_id (by omega) (by omega)]; omega
    refine Ev.step (f := fun k => if (letterB (bt s i) || digitB (bt s i) || markB (bt s i)) = true then spec_NameOk.l0 k s ((i + 1 : Nat) : Int) else some false) (fun k => ?_) ?_
    · rw [spec_NameOk.l0, if_pos (by omega), if_pos (by omega), spec_letter_eq, spec_digit_eq, hw]
      simp only [Option.bind_some]
      cases letterB (bt s i)
      · cases digitB (bt s i)
        · simp only [Bool.false_or, markB, decide_eq_true_eq, Bool.false_eq_true, if_false]
          by_cases c1 : bt s i = 45
          · simp [c1]
          by_cases c2 : bt s i = 95
          · simp [c2]
          by_cases c3 : bt s i = 46
          · simp [c3]
          by_cases c4 : bt s i = 43
          · simp [c4]
          simp [c1, c2, c3, c4]
        · rfl
      · rfl
    · simp only [bytesFrom, nameByteB]
      cases letterB (bt s i) || digitB (bt s i) || markB (bt s i)
      · exact Ev.now _
      · exact hx
theorem spec_NameOk_ev (s : ByteArray) : Ev (fun k => spec_NameOk.f k s) (nameOkB s) := by
  have stop : Ev (fun k => spec_NameOk.j0 k s true) false :=
    Ev.step (f := fun _ => some false) (fun k => by rw [spec_NameOk.j0, if_pos rfl]) (Ev.now _)
  unfold nameOkB
  by_cases h1 : s.size < 1
  · refine Ev.congr (f := fun k => spec_NameOk.j0 k s true) (fun k => by rw [spec_NameOk.f, if_pos (by omega)]) ?_
    rw [show decide (1 ≤ s.size) = false from decide_eq_false (by omega)]
    exact stop
  by_cases h2 : s.size > 60
  · refine Ev.congr (f := fun k => spec_NameOk.j0 k s true) (fun k => by rw [spec_NameOk.f, if_neg (by omega), if_pos (by omega)]) ?_
    rw [show decide (s.size ≤ 60) = false from decide_eq_false (by omega), Bool.and_false]
    exact stop
  refine Ev.congr (f := fun k => spec_NameOk.j0 k s (bt s 0 == 46)) (fun k => by rw [spec_NameOk.f, if_neg (by omega), if_neg (by omega), if_pos (by omega)]) ?_
  rw [show decide (1 ≤ s.size) = true from decide_eq_true (by omega), show decide (s.size ≤ 60) = true from decide_eq_true (by omega)]
  cases hb : bt s 0 == 46
  · refine Ev.step (f := fun k => spec_NameOk.l0 k s ((0 : Nat) : Int)) (fun k => by rw [spec_NameOk.j0, if_neg (by decide)]; rfl) ?_
    exact spec_bytes_ev s (by omega) s.size 0 (by omega)
  · exact stop
def lessB (a b : ByteArray) : Bool := Op.bytesLess a.toList b.toList
def ascB : List ByteArray → Bool
  | a :: b :: r => lessB a b && ascB (b :: r)
  | _ => true
def upB (l : List ByteArray) : Bool := l.all nameOkB && ascB l
theorem rdOf_nat {α : Type} (d : α) (l : List α) (i : Nat) (h : i < l.length) : rdOf d l (i : Int) = l[i] := by
  unfold rdOf
  rw [Int.toNat_natCast, List.getD_eq_getElem?_getD, List.getElem?_eq_getElem h]
  rfl
theorem asc_drop (l : List ByteArray) (i : Nat) (h : i + 1 < l.length) : ascB (l.drop i) = (lessB l[i] l[i + 1] && ascB (l.drop (i + 1))) := by
  rw [List.drop_eq_getElem_cons (show i < l.length by omega), List.drop_eq_getElem_cons h]
  rfl
theorem asc_end (l : List ByteArray) (i : Nat) (h : l.length ≤ i + 1) : ascB (l.drop i) = true := by
  rcases Nat.lt_or_ge i l.length with h1 | h1
  · rw [List.drop_eq_getElem_cons h1, List.drop_eq_nil_of_le h]
    rfl
  · rw [List.drop_eq_nil_of_le h1]
    rfl
theorem impl_rising_ev (l : List ByteArray) (hl : l.length ≤ 9223372036854775807) (d : Nat) : ∀ i : Nat, i + d = l.length → Ev (fun k => impl_rising_hs.l0 k l ((i + 1 : Nat) : Int)) (ascB (l.drop i)) := by
  induction d with
  | zero =>
    intro i hi
    rw [asc_end l i (by omega)]
    exact Ev.step (f := fun _ => some true) (fun k => by rw [impl_rising_hs.l0, if_neg (by omega)]) (Ev.now _)
  | succ d ih =>
    intro i hi
    by_cases h1 : i + 1 < l.length
    · have hx := ih (i + 1) (by omega)
      rw [asc_drop l i h1]
      have hw : wrap64 (((i + 1 : Nat) : Int) - 1) = (i : Int) := by rw [wrap_id (by omega) (by omega)]; omega
      have hw2 : wrap64 (((i + 1 : Nat) : Int) + 1) = ((i + 1 + 1 : Nat) : Int) := by rw [wrap_id (by omega) (by omega)]; omega
      refine Ev.step (f := fun k => if lessB l[i] l[i + 1] = true then impl_rising_hs.l0 k l ((i + 1 + 1 : Nat) : Int) else some false) (fun k => ?_) ?_
      · rw [impl_rising_hs.l0, hw, hw2, if_pos (by omega), if_pos (by omega), if_pos (by omega), if_pos (by omega), rdOf_nat _ l i (by omega), rdOf_nat _ l (i + 1) h1]
        rfl
      · cases lessB l[i] l[i + 1]
        · exact Ev.now _
        · exact hx
    · rw [asc_end l i (by omega)]
      exact Ev.step (f := fun _ => some true) (fun k => by rw [impl_rising_hs.l0, if_neg (by omega)]) (Ev.now _)
theorem impl_rising_hs_ev (l : List ByteArray) (hl : l.length ≤ 9223372036854775807) : Ev (fun k => impl_rising_hs.f k l) (ascB l) :=
  impl_rising_ev l hl l.length 0 (by omega)
theorem spec_asc_ev (l : List ByteArray) (hl : l.length ≤ 9223372036854775807) (d : Nat) : ∀ i : Nat, i + d = l.length → Ev (fun k => spec_l17Ascending.l0 k l ((i + 1 : Nat) : Int)) (ascB (l.drop i) && decide (l.length ≤ 20)) := by
  have hc : decide ((l.length : Int) ≤ 20) = decide (l.length ≤ 20) := decide_eq_decide.2 (by omega)
  induction d with
  | zero =>
    intro i hi
    rw [asc_end l i (by omega)]
    exact Ev.step (f := fun _ => some (decide (l.length ≤ 20))) (fun k => by rw [spec_l17Ascending.l0, if_neg (by omega), hc]) (Ev.now _)
  | succ d ih =>
    intro i hi
    by_cases h1 : i + 1 < l.length
    · have hx := ih (i + 1) (by omega)
      rw [asc_drop l i h1]
      have hw : wrap64 (((i + 1 : Nat) : Int) - 1) = (i : Int) := by rw [wrap_id (by omega) (by omega)]; omega
      have hw2 : wrap64 (((i + 1 : Nat) : Int) + 1) = ((i + 1 + 1 : Nat) : Int) := by rw [wrap_id (by omega) (by omega)]; omega
      refine Ev.step (f := fun k => if lessB l[i] l[i + 1] = true then spec_l17Ascending.l0 k l ((i + 1 + 1 : Nat) : Int) else some false) (fun k => ?_) ?_
      · rw [spec_l17Ascending.l0, hw, hw2, if_pos (by omega), if_pos (by omega), if_pos (by omega), if_pos (by omega), rdOf_nat _ l i (by omega), rdOf_nat _ l (i + 1) h1]
        rfl
      · cases lessB l[i] l[i + 1]
        · exact Ev.now _
        · exact hx
    · rw [asc_end l i (by omega)]
      exact Ev.step (f := fun _ => some (decide (l.length ≤ 20))) (fun k => by rw [spec_l17Ascending.l0, if_neg (by omega), hc]) (Ev.now _)
theorem spec_l17Ascending_ev (l : List ByteArray) (hl : l.length ≤ 9223372036854775807) : Ev (fun k => spec_l17Ascending.f k l) (ascB l && decide (l.length ≤ 20)) :=
  spec_asc_ev l hl l.length 0 (by omega)
theorem all_drop (l : List ByteArray) (i : Nat) (h : i < l.length) : (l.drop i).all nameOkB = (nameOkB l[i] && (l.drop (i + 1)).all nameOkB) := by
  rw [List.drop_eq_getElem_cons h]
  rfl
theorem impl_up_ev (l : List ByteArray) (hl : l.length ≤ 9223372036854775807) (d : Nat) : ∀ i : Nat, i + d = l.length → Ev (fun k => impl_namesUp.l0 k l l (l.length : Int) (i : Int)) ((l.drop i).all nameOkB && ascB l) := by
  induction d with
  | zero =>
    intro i hi
    rw [List.drop_eq_nil_of_le (by omega)]
    refine Ev.step (f := fun k => (impl_rising_hs.f k l).bind fun t => some t) (fun k => by rw [impl_namesUp.l0, if_neg (by omega)]) ?_
    exact Ev.bind (impl_rising_hs_ev l hl) (Ev.now _)
  | succ d ih =>
    intro i hi
    have hx := ih (i + 1) (by omega)
    have hi2 : i < l.length := by omega
    rw [all_drop l i hi2]
    have hw : wrap64 ((i : Int) + 1) = ((i + 1 : Nat) : Int) := by rw [wrap_id (by omega) (by omega)]; omega
    refine Ev.step (f := fun k => (impl_NameOk.f k l[i]).bind fun t => if t = true then impl_namesUp.l0 k l l (l.length : Int) ((i + 1 : Nat) : Int) else some false) (fun k => ?_) ?_
    · rw [impl_namesUp.l0, hw, if_pos (by omega), if_pos (by omega), if_pos (by omega), rdOf_nat _ l i hi2]
    · refine Ev.bind (impl_NameOk_ev l[i]) ?_
      cases nameOkB l[i]
      · exact Ev.now _
      · exact hx
theorem impl_namesUp_ev (l : List ByteArray) (hl : l.length ≤ 9223372036854775807) : Ev (fun k => impl_namesUp.f k l) (upB l) :=
  impl_up_ev l hl l.length 0 (by omega)
theorem spec_names_ev (l : List ByteArray) (hl : l.length ≤ 9223372036854775807) (d : Nat) : ∀ i : Nat, i + d = l.length → Ev (fun k => spec_l8Names.l0 k l (i : Int)) ((l.drop i).all nameOkB && decide (l.length ≤ 2000)) := by
  have hc : decide ((l.length : Int) ≤ 2000) = decide (l.length ≤ 2000) := decide_eq_decide.2 (by omega)
  induction d with
  | zero =>
    intro i hi
    rw [List.drop_eq_nil_of_le (by omega)]
    exact Ev.step (f := fun _ => some (decide (l.length ≤ 2000))) (fun k => by rw [spec_l8Names.l0, if_neg (by omega), hc]) (Ev.now _)
  | succ d ih =>
    intro i hi
    have hx := ih (i + 1) (by omega)
    have hi2 : i < l.length := by omega
    rw [all_drop l i hi2]
    have hw : wrap64 ((i : Int) + 1) = ((i + 1 : Nat) : Int) := by rw [wrap_id (by omega) (by omega)]; omega
    refine Ev.step (f := fun k => (spec_NameOk.f k l[i]).bind fun t => if t = true then spec_l8Names.l0 k l ((i + 1 : Nat) : Int) else some false) (fun k => ?_) ?_
    · rw [spec_l8Names.l0, hw, if_pos (by omega), if_pos (by omega), rdOf_nat _ l i hi2]
    · refine Ev.bind (spec_NameOk_ev l[i]) ?_
      cases nameOkB l[i]
      · exact Ev.now _
      · exact hx
theorem spec_l8Names_ev (l : List ByteArray) (hl : l.length ≤ 9223372036854775807) : Ev (fun k => spec_l8Names.f k l) (l.all nameOkB && decide (l.length ≤ 2000)) :=
  spec_names_ev l hl l.length 0 (by omega)
end Go.Proofs.Ytnjmhlhlmokjnaa.G
namespace Go.Proofs.Ytnjmhlhlmokjnaa.G
open Go.RowKit Go.Proofs.YtnjmhlhlmokjnaaW.PrintWords Go.Proofs.YtnjmhlhlmokjnaaW.PrintLast
def unitB (u : S32) : Bool := nameOkB u.f0 && decide (u.f1.length ≤ 20) && decide (u.f2.length ≤ 20) && upB u.f1 && upB u.f2 && decide (u.f3.size ≤ 4000)
def stepB (l : List S32) (i : Nat) : Bool := unitB (rd_T32 l (i : Int)) && (i == 0 || lessB (rd_T32 l (((i - 1 : Nat)) : Int)).f0 (rd_T32 l (i : Int)).f0)
def okFrom (l : List S32) : Nat → Nat → Bool
  | _, 0 => true
  | i, d + 1 => stepB l i && okFrom l (i + 1) d
def unitsOkB (l : List S32) : Bool := decide (l.length ≤ 100) && okFrom l 0 l.length
def impl_UnitsOk.f (l : List S32) : Option Bool := some (unitsOkB l)
def spec_UnitsOk.f (l : List S32) : Option Bool := some (unitsOkB l)
theorem quiet_of_drawn {P : Program} {f : FuncId} {args : Array Value} {w : World} {v : Value} (h : Calls P f args w fun e w' => e = .returned v ∧ Drawn0 w w') : Calls P f args w fun e w' => e = .returned v ∧ ∃ m, w' = w.drewN m :=
  h.mono fun _ _ ⟨he, hd⟩ => ⟨he, hd.out⟩
theorem nameOk_c (s : ByteArray) (b : Bool) (hb : nameOkB s = b) (w : World) : Calls Try.prog 49 #[.string s] w fun e w' => e = .returned (.bool b) ∧ ∃ m, w' = w.drewN m := by
  obtain ⟨k, hk⟩ := (impl_NameOk_ev s).rounds
  exact quiet_of_drawn (impl_NameOk.calls k s b w (hb ▸ hk))
theorem specNameOk_c (s : ByteArray) (b : Bool) (hb : nameOkB s = b) (w : World) : Calls Try.prog 46 #[.string s] w fun e w' => e = .returned (.bool b) ∧ ∃ m, w' = w.drewN m := by
  obtain ⟨k, hk⟩ := (spec_NameOk_ev s).rounds
  exact quiet_of_drawn (spec_NameOk.calls k s b w (hb ▸ hk))
theorem len_le {w : World} {A : Option Addr} {l : List ByteArray} (h : Kd.C Kd.string w A l.length l) : l.length ≤ 9223372036854775807 := by
  have := h.2.1
  exact this
theorem up_c (A : Option Addr) (c : Nat) (l : List ByteArray) (b : Bool) (hb : upB l = b) (w : World) (hr : Kd.C Kd.string w A l.length l) (hc : l.length ≤ c) : Calls Try.prog 50 #[.slice A l.length c] w fun e w' => e = .returned (.bool b) ∧ ∃ m, w' = w.drewN m := by
  obtain ⟨k, hk⟩ := (impl_namesUp_ev l (len_le hr)).rounds
  exact quiet_of_drawn (impl_namesUp.calls k A c l b w hr hc (hb ▸ hk))
theorem asc_c (A : Option Addr) (c : Nat) (l : List ByteArray) (b : Bool) (hb : (ascB l && decide (l.length ≤ 20)) = b) (w : World) (hr : Kd.C Kd.string w A l.length l) (hc : l.length ≤ c) : Calls Try.prog 47 #[.slice A l.length c] w fun e w' => e = .returned (.bool b) ∧ ∃ m, w' = w.drewN m := by
  obtain ⟨k, hk⟩ := (spec_l17Ascending_ev l (len_le hr)).rounds
  exact quiet_of_drawn (spec_l17Ascending.calls k A c l b w hr hc (hb ▸ hk))
theorem all_c (A : Option Addr) (c : Nat) (l : List ByteArray) (b : Bool) (hb : (l.all nameOkB && decide (l.length ≤ 2000)) = b) (w : World) (hr : Kd.C Kd.string w A l.length l) (hc : l.length ≤ c) : Calls Try.prog 48 #[.slice A l.length c] w fun e w' => e = .returned (.bool b) ∧ ∃ m, w' = w.drewN m := by
  obtain ⟨k, hk⟩ := (spec_l8Names_ev l (len_le hr)).rounds
  exact quiet_of_drawn (spec_l8Names.calls k A c l b w hr hc (hb ▸ hk))
section
variable {l : List S32} {j q : Nat} {u v : S32} {r : Bool}
theorem ok_stop (h : okFrom l j (l.length - j) = r) (hl : j < l.length) (hs : stepB l j = false) : r = false := by
  rw [show l.length - j = (l.length - (j + 1)) + 1 by omega] at h
  rw [← h]
  simp [okFrom, hs]
theorem ok_next (h : okFrom l j (l.length - j) = r) (hl : j < l.length) (hs : stepB l j = true) : okFrom l (j + 1) (l.length - (j + 1)) = r := by
  rw [show l.length - j = (l.length - (j + 1)) + 1 by omega] at h
  rw [← h]
  simp [okFrom, hs]
theorem step_name (hu : u = rd_T32 l (j : Int)) (h : nameOkB u.f0 = false) : stepB l j = false := by subst hu; simp [stepB, unitB, h]
theorem step_less (hu : u = rd_T32 l (j : Int)) (h : Op.bytesLess v.f0.toList u.f0.toList = false) (hj : j = q + 1) (hv : v = rd_T32 l (q : Int)) : stepB l j = false := by
  subst hu hv hj
  simp only [stepB, lessB, Nat.add_sub_cancel, h]
  simp
theorem step_len1 (hu : u = rd_T32 l (j : Int)) (h : decide (u.f1.length ≤ 20) = false) : stepB l j = false := by subst hu; simp only [stepB, unitB, h]; simp
theorem step_len2 (hu : u = rd_T32 l (j : Int)) (h : decide (u.f2.length ≤ 20) = false) : stepB l j = false := by subst hu; simp only [stepB, unitB, h]; simp
theorem step_up1 (hu : u = rd_T32 l (j : Int)) (h : upB u.f1 = false) : stepB l j = false := by subst hu; simp only [stepB, unitB, h]; simp
theorem step_up2 (hu : u = rd_T32 l (j : Int)) (h : upB u.f2 = false) : stepB l j = false := by subst hu; simp only [stepB, unitB, h]; simp
theorem step_size (hu : u = rd_T32 l (j : Int)) (h : decide (u.f3.size ≤ 4000) = false) : stepB l j = false := by subst hu; simp only [stepB, unitB, h]; simp
theorem not_up {l : List ByteArray} (h : (l.all nameOkB && decide (l.length ≤ 2000)) = false) (hs : (ascB l && decide (l.length ≤ 20)) = true) : upB l = false := by
  simp only [Bool.and_eq_true, decide_eq_true_eq] at hs
  rw [decide_eq_true (show l.length ≤ 2000 by omega), Bool.and_true] at h
  simp [upB, h]
theorem is_up {l : List ByteArray} (hs : (ascB l && decide (l.length ≤ 20)) = true) (h : (l.all nameOkB && decide (l.length ≤ 2000)) = true) : upB l = true ∧ decide (l.length ≤ 20) = true := by
  simp only [Bool.and_eq_true, decide_eq_true_eq] at hs h
  simp [upB, h.1, hs.1, hs.2]
theorem step_asc1 (hu : u = rd_T32 l (j : Int)) (h : (ascB u.f1 && decide (u.f1.length ≤ 20)) = false) : stepB l j = false := by
  rcases Bool.and_eq_false_iff.1 h with h | h
  · exact step_up1 hu (by simp [upB, h])
  · exact step_len1 hu h
theorem step_asc2 (hu : u = rd_T32 l (j : Int)) (h : (ascB u.f2 && decide (u.f2.length ≤ 20)) = false) : stepB l j = false := by
  rcases Bool.and_eq_false_iff.1 h with h | h
  · exact step_up2 hu (by simp [upB, h])
  · exact step_len2 hu h
theorem step_all1 (hu : u = rd_T32 l (j : Int)) (h : (u.f1.all nameOkB && decide (u.f1.length ≤ 2000)) = false) (hs : (ascB u.f1 && decide (u.f1.length ≤ 20)) = true) : stepB l j = false := step_up1 hu (not_up h hs)
theorem step_all2 (hu : u = rd_T32 l (j : Int)) (h : (u.f2.all nameOkB && decide (u.f2.length ≤ 2000)) = false) (hs : (ascB u.f2 && decide (u.f2.length ≤ 20)) = true) : stepB l j = false := step_up2 hu (not_up h hs)
theorem step_true0 (hu : u = rd_T32 l (j : Int)) (h1 : nameOkB u.f0 = true) (h2 : decide (u.f1.length ≤ 20) = true) (h3 : decide (u.f2.length ≤ 20) = true) (h4 : upB u.f1 = true) (h5 : upB u.f2 = true) (h6 : decide (u.f3.size ≤ 4000) = true) (hj : j = 0) : stepB l j = true := by
  subst hu hj; simp only [stepB, unitB, h1, h2, h3, h4, h5, h6]; rfl
theorem step_true (hu : u = rd_T32 l (j : Int)) (h1 : nameOkB u.f0 = true) (hl : Op.bytesLess v.f0.toList u.f0.toList = true) (hj : j = q + 1) (hv : v = rd_T32 l (q : Int)) (h2 : decide (u.f1.length ≤ 20) = true) (h3 : decide (u.f2.length ≤ 20) = true) (h4 : upB u.f1 = true) (h5 : upB u.f2 = true) (h6 : decide (u.f3.size ≤ 4000) = true) : stepB l j = true := by
  subst hu hv hj; simp only [stepB, unitB, lessB, Nat.add_sub_cancel, h1, h2, h3, h4, h5, h6, hl]; simp
theorem step_trueS0 (hu : u = rd_T32 l (j : Int)) (h1 : nameOkB u.f0 = true) (h2 : (ascB u.f1 && decide (u.f1.length ≤ 20)) = true) (h3 : (ascB u.f2 && decide (u.f2.length ≤ 20)) = true) (h4 : (u.f1.all nameOkB && decide (u.f1.length ≤ 2000)) = true) (h5 : (u.f2.all nameOkB && decide (u.f2.length ≤ 2000)) = true) (h6 : decide (u.f3.size ≤ 4000) = true) (hj : j = 0) : stepB l j = true :=
  step_true0 hu h1 (is_up h2 h4).2 (is_up h3 h5).2 (is_up h2 h4).1 (is_up h3 h5).1 h6 hj
theorem step_trueS (hu : u = rd_T32 l (j : Int)) (h1 : nameOkB u.f0 = true) (hl : Op.bytesLess v.f0.toList u.f0.toList = true) (hj : j = q + 1) (hv : v = rd_T32 l (q : Int)) (h2 : (ascB u.f1 && decide (u.f1.length ≤ 20)) = true) (h3 : (ascB u.f2 && decide (u.f2.length ≤ 20)) = true) (h4 : (u.f1.all nameOkB && decide (u.f1.length ≤ 2000)) = true) (h5 : (u.f2.all nameOkB && decide (u.f2.length ≤ 2000)) = true) (h6 : decide (u.f3.size ≤ 4000) = true) : stepB l j = true :=
  step_true hu h1 hl hj hv (is_up h2 h4).2 (is_up h3 h5).2 (is_up h2 h4).1 (is_up h3 h5).1 h6
end
end Go.Proofs.Ytnjmhlhlmokjnaa.G
namespace Go.Proofs.Ytnjmhlhlmokjnaa.G
set_option linter.unusedVariables false
set_option linter.unusedSimpArgs false
theorem u8_tri (a b : UInt8) : a < b ∨ a = b ∨ b < a := by
  rcases Nat.lt_trichotomy a.toNat b.toNat with h | h | h
  · exact .inl (UInt8.lt_iff_toNat_lt.2 h)
  · exact .inr (.inl (UInt8.toNat_inj.1 h))
  · exact .inr (.inr (UInt8.lt_iff_toNat_lt.2 h))
theorem u8_irrefl (a : UInt8) : ¬ a < a := fun h => by have := UInt8.lt_iff_toNat_lt.1 h; omega
theorem u8_trans {a b c : UInt8} (h : a < b) (k : b < c) : a < c := by
  have := UInt8.lt_iff_toNat_lt.1 h
  have := UInt8.lt_iff_toNat_lt.1 k
  exact UInt8.lt_iff_toNat_lt.2 (by omega)
theorem bl_cons (a b : UInt8) (x y : List UInt8) : Op.bytesLess (a :: x) (b :: y) = true ↔ a < b ∨ (a = b ∧ Op.bytesLess x y = true) := by
  simp [Op.bytesLess]
theorem bl_irrefl : ∀ x : List UInt8, Op.bytesLess x x = false
  | [] => rfl
  | a :: x => by
    cases h : Op.bytesLess (a :: x) (a :: x)
    · rfl
    · rcases (bl_cons ..).1 h with h | ⟨_, h⟩
      · exact absurd h (u8_irrefl a)
      · rw [bl_irrefl x] at h; cases h
theorem bl_trans : ∀ x y z : List UInt8, Op.bytesLess x y = true → Op.bytesLess y z = true → Op.bytesLess x z = true
  | _, [], _, h, _ => by cases ‹List UInt8› <;> simp [Op.bytesLess] at h
  | _, _ :: _, [], _, h => by simp [Op.bytesLess] at h
  | [], _ :: _, _ :: _, _, _ => rfl
  | a :: x, b :: y, c :: z, h, k => by
    rw [bl_cons] at h k ⊢
    rcases h with h | ⟨rfl, h⟩
    · rcases k with k | ⟨rfl, k⟩
      · exact .inl (u8_trans h k)
      · exact .inl h
    · rcases k with k | ⟨rfl, k⟩
      · exact .inl k
      · exact .inr ⟨rfl, bl_trans x y z h k⟩
theorem bl_tri : ∀ x y : List UInt8, Op.bytesLess x y = true ∨ x = y ∨ Op.bytesLess y x = true
  | [], [] => .inr (.inl rfl)
  | [], _ :: _ => .inl rfl
  | _ :: _, [] => .inr (.inr rfl)
  | a :: x, b :: y => by
    rw [bl_cons, bl_cons]
    rcases u8_tri a b with h | rfl | h
    · exact .inl (.inl h)
    · rcases bl_tri x y with h | rfl | h
      · exact .inl (.inr ⟨rfl, h⟩)
      · exact .inr (.inl rfl)
      · exact .inr (.inr (.inr ⟨rfl, h⟩))
    · exact .inr (.inr (.inl h))
theorem toList_inj {a b : ByteArray} (h : a.toList = b.toList) : a = b := by
  rw [Lib.toList_data, Lib.toList_data] at h
  cases a; cases b
  simp at h
  rw [h]
theorem lt_irrefl (a : ByteArray) : lessB a a = false := bl_irrefl _
theorem lt_trans {a b c : ByteArray} (h : lessB a b = true) (k : lessB b c = true) : lessB a c = true := bl_trans _ _ _ h k
theorem lt_tri (a b : ByteArray) : lessB a b = true ∨ a = b ∨ lessB b a = true := by
  rcases bl_tri a.toList b.toList with h | h | h
  · exact .inl h
  · exact .inr (.inl (toList_inj h))
  · exact .inr (.inr h)
theorem lt_asymm {a b : ByteArray} (h : lessB a b = true) : lessB b a = false := by
  cases k : lessB b a
  · rfl
  · have := lt_trans h k; rw [lt_irrefl] at this; cases this
theorem lt_ne {a b : ByteArray} (h : lessB a b = true) : a ≠ b := by rintro rfl; rw [lt_irrefl] at h; cases h
def Asc (l : List ByteArray) : Prop := l.Pairwise fun a b => lessB a b = true
theorem asc_of_ascB : ∀ l : List ByteArray, ascB l = true → Asc l
  | [], _ => List.Pairwise.nil
  | [_], _ => List.pairwise_singleton _ _
  | a :: b :: r, h => by
    simp only [ascB, Bool.and_eq_true] at h
    have hr := asc_of_ascB (b :: r) h.2
    refine List.Pairwise.cons (fun x hx => ?_) hr
    rcases List.mem_cons.1 hx with rfl | hx
    · exact h.1
    · exact lt_trans h.1 ((List.pairwise_cons.1 hr).1 x hx)
theorem asc_unique : ∀ l m : List ByteArray, Asc l → Asc m → (∀ x, x ∈ l ↔ x ∈ m) → l = m
  | [], [], _, _, _ => rfl
  | [], b :: m, _, _, h => by have := (h b).2 (by simp); cases this
  | a :: l, [], _, _, h => by have := (h a).1 (by simp); cases this
  | a :: l, b :: m, hl, hm, h => by
    have hl' := List.pairwise_cons.1 hl
    have hm' := List.pairwise_cons.1 hm
    have hab : a = b := by
      rcases List.mem_cons.1 ((h a).1 (by simp)) with e | h1
      · exact e
      · rcases List.mem_cons.1 ((h b).2 (by simp)) with e | h2
        · exact e.symm
        · have h3 := hl'.1 b h2
          have h4 := hm'.1 a h1
          rw [lt_asymm h3] at h4; cases h4
    subst hab
    rw [asc_unique l m hl'.2 hm'.2 (fun x => ⟨fun hx => ?_, fun hx => ?_⟩)]
    · rcases List.mem_cons.1 ((h x).1 (by simp [hx])) with rfl | h1
      · have := hl'.1 x hx; rw [lt_irrefl] at this; cases this
      · exact h1
    · rcases List.mem_cons.1 ((h x).2 (by simp [hx])) with rfl | h1
      · have := hm'.1 x hx; rw [lt_irrefl] at this; cases this
      · exact h1
theorem asc_nodup {l : List ByteArray} (h : Asc l) : l.Nodup := h.imp (fun {a b} h => lt_ne h)
def insB (s : ByteArray) : List ByteArray → List ByteArray
  | [] => [s]
  | y :: r => if lessB y s = true then y :: insB s r else if y = s then y :: r else s :: y :: r
theorem mem_insB (s x : ByteArray) : ∀ l, x ∈ insB s l ↔ x = s ∨ x ∈ l
  | [] => by simp [insB]
  | y :: r => by
    unfold insB
    split
    · simp [mem_insB s x r]
      constructor
      · rintro (h | h | h) <;> simp [h]
      · rintro (h | h | h) <;> simp [h]
    · split
      · rename_i e; subst e; simp
      · simp
theorem asc_insB (s : ByteArray) : ∀ l, Asc l → Asc (insB s l)
  | [], _ => List.pairwise_singleton _ _
  | y :: r, h => by
    have h' := List.pairwise_cons.1 h
    unfold insB
    split
    · rename_i hlt
      refine List.Pairwise.cons (fun x hx => ?_) (asc_insB s r h'.2)
      rcases (mem_insB s x r).1 hx with rfl | hx
      · exact hlt
      · exact h'.1 x hx
    · rename_i hlt
      split
      · exact h
      · rename_i hne
        have hs : lessB s y = true := by
          rcases lt_tri y s with k | k | k
          · exact absurd k hlt
          · exact absurd k hne
          · exact k
        refine List.Pairwise.cons (fun x hx => ?_) h
        rcases List.mem_cons.1 hx with rfl | hx
        · exact hs
        · exact lt_trans hs (h'.1 x hx)
def canonL (l : List ByteArray) : List ByteArray := l.foldr insB []
theorem asc_canonL : ∀ l, Asc (canonL l)
  | [] => List.Pairwise.nil
  | s :: r => asc_insB s _ (asc_canonL r)
theorem mem_canonL (x : ByteArray) : ∀ l, x ∈ canonL l ↔ x ∈ l
  | [] => by simp [canonL]
  | s :: r => by
    show x ∈ insB s (canonL r) ↔ _
    rw [mem_insB, mem_canonL x r, List.mem_cons]
theorem asc_of_sorted {l : List ByteArray} (h : l.Pairwise fun a b => lessB b a = false) (hn : l.Nodup) : Asc l := by
  refine (h.and hn).imp ?_
  rintro a b ⟨h1, h2⟩
  rcases lt_tri a b with k | k | k
  · exact k
  · exact absurd k h2
  · rw [h1] at k; cases k
end Go.Proofs.Ytnjmhlhlmokjnaa.G
