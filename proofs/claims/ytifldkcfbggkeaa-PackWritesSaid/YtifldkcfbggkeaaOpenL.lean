/- Slices that came in, of integers, of strings and of bytes: opened to their cells. Conditions: none. -/
import Derived.Test.YtifldkcfbggkeaaKeepsW
import Derived.Deep.Slices
import Derived.Deep.Strs
import Derived.ChangeSame
import Derived.ProofKit
namespace Go.Proofs.Ytifldkcfbggkeaa
open Go.ChangeShapes Go.WideShapes Go.Deep Go.RowKit

/-- A slice of one cell each that can be read; nil let in. -/
def Vals (w : World) (A : Option Addr) (n c : Nat) (vs : List Value) : Prop :=
  (A = none → n = 0 ∧ c = 0) ∧ Reads w w.heap.size 1 A n vs ∧ n ≤ c ∧ c ≤ maxLen
def Ints (k : IntKind) (w : World) (A : Option Addr) (n c : Nat) (zs : List Int) : Prop :=
  Vals w A n c (zs.map (.int k)) ∧ zs.length = n ∧ ∀ z ∈ zs, (Lit.int k z).wf = true
def Strs (w : World) (A : Option Addr) (n c : Nat) (zs : List ByteArray) : Prop :=
  Vals w A n c (zs.map .string) ∧ zs.length = n ∧ ∀ z ∈ zs, z.size ≤ maxLen

theorem vals_of {w : World} {a : Addr} {n c : Nat} {vs : List Value} (hl : n ≤ c) (hm : c ≤ maxLen) (hlen : vs.length = n) (h : ∀ i, i < n → w.cell? (a.add i) = vs[i]?) : Vals w (some a) n c vs := by
  refine ⟨by simp, ⟨by omega, fun hn => ⟨a, rfl, ?_, fun j u hu => ?_⟩⟩, hl, hm⟩
  · have h0 := h 0 hn
    rw [List.getElem?_eq_getElem (by omega)] at h0
    have := World.block_lt_of_cell? _ _ h0
    rwa [block_of_add] at this
  · rw [h j (by have := (List.getElem?_eq_some_iff.1 hu).1; omega), hu]
theorem vals_nil (w : World) : Vals w none 0 0 [] := ⟨fun _ => ⟨rfl, rfl⟩, Reads.none_, Nat.le_refl _, Nat.zero_le _⟩

section
variable {H : Type} {enc : TypeId × Value → H} {P : Program} {W : World} {base : Nat} {spare : Nat → Bool} {held : Bool}

theorem open_ints_gen {k : IntKind} {t e : TypeId} (ht : P.underlying t = some (.slice e)) (he : P.underlying e = some (.int k)) (hc : P.cellsOf e = 1) {fuel : Nat} {v : Value} {x : DataW H × List MemPlace} (hs : ∀ b, spare b = true)
    (h : DataW.trod enc P W base spare held fuel t [v] = some x) : ∃ A n c zs, v = .slice A n c ∧ Ints k W A n c zs := by
  rcases open_ints ht he hc h with ⟨hcs, _⟩ | ⟨x, l, c, zs, hcs, _, hl, hm, hz, _, hcell, hwz⟩
  · obtain rfl : v = .slice none 0 0 := by simpa using hcs
    exact ⟨none, 0, 0, [], rfl, vals_nil W, rfl, by simp⟩
  · obtain rfl : v = .slice (some x) l c := by simpa using hcs
    rw [hs, if_pos rfl] at hz
    refine ⟨_, _, _, zs.take l, rfl, vals_of hl hm (by simp; omega) (fun i hi => ?_), by simp; omega, fun z hz' => hwz z (List.mem_of_mem_take hz')⟩
    rw [hcell i (by omega), List.getElem?_map, List.getElem?_take, if_pos hi, List.getElem?_eq_getElem (by omega), List.getD, List.getElem?_eq_getElem (by omega)]
    rfl

theorem open_strs_gen {t e : TypeId} (ht : P.underlying t = some (.slice e)) (he : P.underlying e = some .string) (hc : P.cellsOf e = 1) {fuel : Nat} {v : Value} {x : DataW H × List MemPlace} (hs : ∀ b, spare b = true)
    (h : DataW.trod enc P W base spare held fuel t [v] = some x) : ∃ A n c zs, v = .slice A n c ∧ Strs W A n c zs := by
  rcases open_strs ht he hc h with ⟨hcs, _⟩ | ⟨x, l, c, m, Sx, hcs, _, hl, hm, hz, _, hcell⟩
  · obtain rfl : v = .slice none 0 0 := by simpa using hcs
    exact ⟨none, 0, 0, [], rfl, vals_nil W, rfl, by simp⟩
  · obtain rfl : v = .slice (some x) l c := by simpa using hcs
    rw [hs, if_pos rfl] at hz
    refine ⟨_, _, _, (List.range l).map Sx, rfl, vals_of hl hm (by simp) (fun i hi => ?_), by simp, fun z hz' => ?_⟩
    · rw [(hcell i (by omega)).1, List.getElem?_map, List.getElem?_map, List.getElem?_range hi]
      rfl
    · obtain ⟨i, hi, rfl⟩ := List.mem_map.1 hz'
      exact (hcell i (by have := List.mem_range.1 hi; omega)).2

/-- A slice of bytes, opened. -/
theorem open_bts_gen {t e : TypeId} (ht : P.underlying t = some (.slice e)) (he : P.underlying e = some (.int .u8)) (hc : P.cellsOf e = 1) {fuel : Nat} {v : Value} {x : DataW H × List MemPlace} (hs : ∀ b, spare b = true)
    (h : DataW.trod enc P W base spare held fuel t [v] = some x) : ∃ A n c l, v = .slice A n c ∧ Bts W A n c l := by
  rcases open_ints ht he hc h with ⟨hcs, _⟩ | ⟨x, l, c, zs, hcs, _, hl, hm, hz, _, hcell, hwz⟩
  · obtain rfl : v = .slice none 0 0 := by simpa using hcs
    exact ⟨none, 0, 0, [], rfl, bts_nil W⟩
  · obtain rfl : v = .slice (some x) l c := by simpa using hcs
    rw [hs, if_pos rfl] at hz
    obtain ⟨r, hr⟩ := IsRow.bts (w := W) (A := some x) (n := l) (c := c) (zs := zs) (.inr ⟨x, rfl, hl, hm, hz, hcell, hwz⟩)
    exact ⟨_, _, _, r, rfl, hr⟩
end

section
variable {w w' : World} {A : Option Addr} {n c B : Nat} {vs : List Value}
theorem Vals.below (h : Vals w A n c vs) (hb : Below w.heap.size w w') : Vals w' A n c vs := ⟨h.1, (h.2.1.below hb).more hb.size, h.2.2⟩
theorem Vals.at_ (h : Vals w A n c vs) {k : Nat} (hk : k < n) : ∃ ad u, A = some ad ∧ vs[k]? = some u ∧ w.cell? (ad.add k) = some u := by
  obtain ⟨ad, u, e, _, h1, h2⟩ := h.2.1.at_ hk
  exact ⟨ad, u, e, h1, h2⟩
end
end Go.Proofs.Ytifldkcfbggkeaa
