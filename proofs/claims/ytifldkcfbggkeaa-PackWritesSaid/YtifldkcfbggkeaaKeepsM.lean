/- What DiskKeeps does to a disk, in plain Lean; and a slice of bytes turned into a string. Conditions: none. -/
import Derived.Test.YtifldkcfbggkeaaDiskA
namespace Go.Proofs.Ytifldkcfbggkeaa
open Go.RowKit

/-- A slice of bytes that can be read, as a string. -/
theorem run_string_of {P : Program} (w : World) (src dst e : TypeId) (hs : P.underlying src = some (.slice e)) (he : P.underlying e = some (.int .u8)) (hd : P.underlying dst = some .string)
    {B n c : Nat} {A : Option Addr} {l : List UInt8} (hr : Reads w B 1 A n (l.map byt)) : (convert src dst (.slice A n c)).run P w = .ok (.string ⟨l.toArray⟩) w := by
  have hln : l.length = n := by have := hr.1; simpa using this
  rcases Nat.eq_zero_or_pos n with h0 | h0
  · subst h0
    obtain rfl : l = [] := List.eq_nil_of_length_eq_zero hln
    rw [run_convert_bytes_string w src dst e A 0 c hs he hd]
    cases A with
    | none => simp [Conv.bytesToString, ByteArray.empty, ByteArray.emptyWithCapacity]; rfl
    | some ad => simp [Conv.bytesToString, ByteArray.empty, ByteArray.emptyWithCapacity, loadCells, loadCellsFrom]; rfl
  · obtain ⟨ad, rfl, _, hx⟩ := hr.2 h0
    have hl : (loadCells ad n).run P w = .ok ((l.map fun b => (b.toNat : Int)).map (Value.int .u8)).toArray w := by
      have := run_loadCells_list (P := P) w ad ((l.map fun b => (b.toNat : Int)).map (Value.int .u8)) (fun j v hj => hx j v (by simpa [byt, Function.comp_def] using hj))
      simpa [hln] using this
    rw [run_convert_bytes_string w src dst e _ n c hs he hd, run_bytesToString w ad n c _ hl, foldl_push_bytes]
    simp [ByteArray.empty, ByteArray.emptyWithCapacity, Function.comp_def]
    rfl

theorem iteIff {α : Type} {p q : Prop} [Decidable p] [Decidable q] (h : p ↔ q) (a b : α) : some (if p then a else b) = some (if q then a else b) := by
  simp only [h]
theorem ifYes {α : Type} {p : Prop} [Decidable p] (h : p) (a b : α) : some a = some (if p then a else b) := by rw [if_pos h]

/-- The disk that DiskKeeps has behind j writes. -/
def KInv (l : List UInt8) (n : Nat) (odd : Bool) (j : Nat) (d : Dk) : Prop :=
  d.S.length = 8 ∧ d.odd = odd ∧
  (∀ i, i < 8 → d.S[i]? = some (if i < j ∧ (i + 1 < n ∨ (i + 1 = n ∧ odd = true)) then pad l else zeros64)) ∧
  ((j < n ∧ d.off = false ∧ d.cut = (n : Int) - j) ∨ (n ≤ j ∧ d.off = true ∧ d.cut = 0))

theorem KInv.start (l : List UInt8) (n : Nat) (how : Int) (h1 : 1 ≤ n) : KInv l n (how.tmod 2 != 0) 0 ((Dk.new 8).armed n how) := by
  refine ⟨by simp [Dk.new, Dk.armed], rfl, fun i hi => ?_, .inl ⟨h1, rfl, by simp [Dk.armed]⟩⟩
  rw [if_neg (by omega)]
  simp only [Dk.new, Dk.armed, List.getElem?_replicate]
  rw [if_pos hi]

theorem KInv.more {l : List UInt8} {n j : Nat} {odd : Bool} {d : Dk} (h : KInv l n odd j d) (hj : j < 8) (hl : l.length ≤ 64) (hn : j + 1 < n) :
    ∃ d', d.write j l = (d', 0) ∧ KInv l n odd (j + 1) d' := by
  obtain ⟨h1, h2, h3, h4⟩ := h
  rcases h4 with ⟨_, ho, hc⟩ | ⟨h, _⟩
  · have hm : d.may j l.length = 0 := by
      unfold Dk.may
      rw [if_neg (by omega), if_neg (by simp [ho])]
    refine ⟨(d.less.put j l).counted, by simp only [Dk.write, hm, if_true]; rw [if_pos (by omega), if_neg (by omega)], by simp [Dk.put, Dk.less, Dk.counted, h1], h2, fun i hi => ?_, .inl ⟨hn, ho, by simp only [Dk.put, Dk.less, Dk.counted]; omega⟩⟩
    simp only [Dk.put, Dk.less, Dk.counted, Int.toNat_natCast]
    by_cases e : j = i
    · subst e
      rw [List.getElem?_set_self (by omega)]
      exact ifYes ⟨by omega, .inl hn⟩ _ _
    · rw [List.getElem?_set_ne e, h3 i hi]
      exact iteIff (by first | omega | (simp; omega) | (cases odd <;> simp <;> omega)) _ _
  · omega

theorem KInv.last {l : List UInt8} {n j : Nat} {odd : Bool} {d : Dk} (h : KInv l n odd j d) (hj : j < 8) (hl : l.length ≤ 64) (hn : j + 1 = n) :
    ∃ d', d.write j l = (d', 4) ∧ KInv l n odd (j + 1) d' := by
  obtain ⟨h1, h2, h3, h4⟩ := h
  rcases h4 with ⟨_, ho, hc⟩ | ⟨h, _⟩
  · have hm : d.may j l.length = 0 := by
      unfold Dk.may
      rw [if_neg (by omega), if_neg (by simp [ho])]
    have hc1 : d.cut = 1 := by omega
    cases odd with
    | true =>
      refine ⟨d.cutOff.put j l, by simp only [Dk.write, hm, if_true]; rw [if_pos (by omega), if_pos hc1, if_pos h2], by simp [Dk.put, Dk.cutOff, h1], h2, fun i hi => ?_, .inr ⟨by omega, rfl, rfl⟩⟩
      simp only [Dk.put, Dk.cutOff, Int.toNat_natCast]
      by_cases e : j = i
      · subst e
        rw [List.getElem?_set_self (by omega)]
        exact ifYes ⟨by omega, .inr ⟨hn, by simp⟩⟩ _ _
      · rw [List.getElem?_set_ne e, h3 i hi]
        exact iteIff (by first | omega | (simp; omega) | (cases odd <;> simp <;> omega)) _ _
    | false =>
      refine ⟨d.cutOff, by simp only [Dk.write, hm, if_true]; rw [if_pos (by omega), if_pos hc1, if_neg (by simp [h2])], by simp [Dk.cutOff, h1], h2, fun i hi => ?_, .inr ⟨by omega, rfl, rfl⟩⟩
      simp only [Dk.cutOff]
      rw [h3 i hi]
      exact iteIff (by first | omega | (simp; omega) | (cases odd <;> simp <;> omega)) _ _
  · omega

theorem KInv.gone {l : List UInt8} {n j : Nat} {odd : Bool} {d : Dk} (h : KInv l n odd j d) (hj : j < 8) (hl : l.length ≤ 64) (hn : n ≤ j) :
    ∃ d', d.write j l = (d', 4) ∧ KInv l n odd (j + 1) d' := by
  obtain ⟨h1, h2, h3, h4⟩ := h
  rcases h4 with ⟨h, _⟩ | ⟨_, ho, hc⟩
  · omega
  · have hm : d.may j l.length = 4 := by
      unfold Dk.may
      rw [if_neg (by omega), if_pos ho]
    refine ⟨d, by simp [Dk.write, hm], h1, h2, fun i hi => ?_, .inr ⟨by omega, ho, hc⟩⟩
    rw [h3 i hi]
    exact iteIff (by first | omega | (simp; omega) | (cases odd <;> simp <;> omega)) _ _

theorem KInv.end_ {l : List UInt8} {n : Nat} {odd : Bool} {d : Dk} (h : KInv l n odd 8 d) (i : Nat) (hi : i < 8) :
    d.on.S[i]? = some (if i + 1 < n ∨ (i + 1 = n ∧ odd = true) then pad l else zeros64) := by
  have := h.2.2.1 i hi
  simp only [Dk.on]
  rw [this]
  exact iteIff (by constructor <;> intro h' <;> first | exact h'.2 | exact ⟨hi, h'⟩) _ _
end Go.Proofs.Ytifldkcfbggkeaa
