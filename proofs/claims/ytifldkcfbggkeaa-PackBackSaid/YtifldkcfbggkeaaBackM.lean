/- What PackBack writes and reads, as lists; elements of lists that came in. Conditions: none. -/
import Derived.Test.YtifldkcfbggkeaaPackA
import Derived.Test.YtifldkcfbggkeaaOpenL
namespace Go.Proofs.Ytifldkcfbggkeaa
open Go.RowKit

section
variable {α : Type} (f : α → List UInt8)
theorem enc_take {L : List α} {j : Nat} {x : α} (h : L[j]? = some x) : (L.take (j + 1)).flatMap f = (L.take j).flatMap f ++ f x := by
  rw [List.take_add_one, h]; simp
theorem enc_drop {L : List α} {j : Nat} {x : α} (h : L[j]? = some x) : (L.drop j).flatMap f = f x ++ (L.drop (j + 1)).flatMap f := by
  obtain ⟨hj, rfl⟩ := List.getElem?_eq_some_iff.1 h
  rw [List.drop_eq_getElem_cons hj, List.flatMap_cons]
theorem enc_le {m : Nat} (L : List α) (h : ∀ x ∈ L, (f x).length ≤ m) : (L.flatMap f).length ≤ L.length * m := by
  induction L with
  | nil => simp
  | cons x L ih =>
    have h1 := h x (by simp)
    have h2 := ih (fun y hy => h y (by simp [hy]))
    simp only [List.flatMap_cons, List.length_append, List.length_cons, Nat.add_mul, Nat.one_mul]
    omega
end
def eU (z : Int) : List UInt8 := putU z.toNat
def eI (z : Int) : List UInt8 := putU (zig z)
def eS (s : ByteArray) : List UInt8 := putU s.data.toList.length ++ s.data.toList

theorem u64_nat {z : Int} (h : (Lit.int .u64 z).wf = true) : ∃ u : Nat, z = (u : Int) ∧ u < 18446744073709551616 := by
  simp only [Lit.wf, Bool.and_eq_true, decide_eq_true_eq] at h
  have e1 : IntKind.u64.min = 0 := by decide
  have e2 : IntKind.u64.max = 18446744073709551615 := by decide
  exact ⟨z.toNat, by omega, by omega⟩
theorem i64_in' {z : Int} (h : (Lit.int .i64 z).wf = true) : -9223372036854775808 ≤ z ∧ z ≤ 9223372036854775807 := by
  simp only [Lit.wf, Bool.and_eq_true, decide_eq_true_eq] at h
  have e1 : IntKind.i64.min = -9223372036854775808 := by decide
  have e2 : IntKind.i64.max = 9223372036854775807 := by decide
  omega
theorem eU_le {z : Int} (h : (Lit.int .u64 z).wf = true) : (eU z).length ≤ 10 := by
  obtain ⟨u, rfl, hu⟩ := u64_nat h
  exact putU_ten (by simpa using hu)
theorem eI_le {z : Int} (h : (Lit.int .i64 z).wf = true) : (eI z).length ≤ 10 := putU_ten (zig_lt (i64_in' h).1 (i64_in' h).2)
theorem eS_le {s : ByteArray} (h : s.size ≤ 100) : (eS s).length ≤ 110 := by
  have e : s.data.toList.length = s.size := Array.length_toList
  have := putU_ten (u := s.data.toList.length) (by omega)
  unfold eS
  rw [List.length_append]
  omega

theorem plain_of' {w : World} {a : Addr} {v : Value} (h : w.cell? a = some v) : a = ⟨a.block, a.off, none⟩ := by
  obtain ⟨b, o, sp⟩ := a
  cases sp with
  | none => rfl
  | some x =>
    simp only [World.cell?] at h
    split at h <;> simp at h

section
variable {w wr : World} {A : Option Addr} {n c : Nat}
theorem vals_at {vs : List Value} (h : Vals w A n c vs) {j : Nat} (hj : j < n) : ∃ ab ao u, A = some ⟨ab, ao, none⟩ ∧ vs[j]? = some u ∧ ∀ w', Below w.heap.size w w' → w'.cell? ⟨ab, ao + j, none⟩ = some u := by
  obtain ⟨ad, u, e, _, h1, h2⟩ := h.2.1.at_ hj
  obtain ⟨ad0, v0, e0, _, h10, h20⟩ := h.2.1.at_ (k := 0) (by omega)
  obtain rfl : ad0 = ad := by rw [e] at e0; injection e0 with e0; exact e0.symm
  have hpl := plain_of' h20
  obtain ⟨b, o, sp⟩ := ad0
  obtain rfl : sp = none := by simp [Addr.add] at hpl; exact hpl
  refine ⟨b, o, u, e, h1, fun w' hb => ?_⟩
  have e1 : (⟨b, o, none⟩ : Addr).add j = ⟨b, o + j, none⟩ := by
    unfold Addr.add
    by_cases e : j = 0 <;> simp [e]
  rw [e1] at h2
  exact (hb.cell (p := ⟨b, o + j, none⟩) (World.block_lt_of_cell? _ _ h2)).trans h2
theorem ints_at {k : IntKind} {zs : List Int} (h : Ints k w A n c zs) {j : Nat} (hj : j < n) :
    ∃ ab ao z, A = some ⟨ab, ao, none⟩ ∧ (Lit.int k z).wf = true ∧ zs[j]? = some z ∧ ∀ w', Below w.heap.size w w' → w'.cell? ⟨ab, ao + j, none⟩ = some (.int k z) := by
  obtain ⟨ab, ao, u, e, h1, h2⟩ := vals_at h.1 hj
  rw [List.getElem?_map] at h1
  obtain ⟨z, hz, rfl⟩ := Option.map_eq_some_iff.1 h1
  exact ⟨ab, ao, z, e, h.2.2 z (List.mem_of_getElem? hz), hz, h2⟩
theorem strs_at {zs : List ByteArray} (h : Strs w A n c zs) {j : Nat} (hj : j < n) :
    ∃ ab ao z, A = some ⟨ab, ao, none⟩ ∧ z.size ≤ maxLen ∧ zs[j]? = some z ∧ ∀ w', Below w.heap.size w w' → w'.cell? ⟨ab, ao + j, none⟩ = some (.string z) := by
  obtain ⟨ab, ao, u, e, h1, h2⟩ := vals_at h.1 hj
  rw [List.getElem?_map] at h1
  obtain ⟨z, hz, rfl⟩ := Option.map_eq_some_iff.1 h1
  exact ⟨ab, ao, z, e, h.2.2 z (List.mem_of_getElem? hz), hz, h2⟩
end

section
variable {w : World} {p : Nat} {r : List UInt8}
theorem rdNum_put {u : Nat} (h : u < 18446744073709551616) (r : List UInt8) (bad : Bool) : rdNum (putU u ++ r) bad = (u, r, bad) := by
  unfold rdNum; rw [rd_put h]
theorem back_U {u : Nat} (hu : u < 18446744073709551616) (h : RdAt 77 w p (putU u ++ r) false) :
    Calls Try.prog 30 #[.pointer (some ⟨p, 0, none⟩)] w fun e w' => e = .returned (.int .u64 (u : Int)) ∧ RdAt 77 w' p r false ∧ Kept (fun k => k = p) w w' := by
  have := readU_any h
  rwa [rdNum_put hu] at this
theorem back_I {z : Int} (hz : (Lit.int .i64 z).wf = true) (h : RdAt 77 w p (eI z ++ r) false) :
    Calls Try.prog 31 #[.pointer (some ⟨p, 0, none⟩)] w fun e w' => e = .returned (.int .i64 z) ∧ RdAt 77 w' p r false ∧ Kept (fun k => k = p) w w' := by
  have := readI_any h
  unfold rdInt eI at this
  rwa [rdNum_put (zig_lt (i64_in' hz).1 (i64_in' hz).2), unzig_zig] at this
theorem back_S {s : ByteArray} (hs : s.size ≤ 100) (h : RdAt 77 w p (eS s ++ r) false) :
    Calls Try.prog 34 #[.pointer (some ⟨p, 0, none⟩)] w fun e w' => e = .returned (.string s) ∧ RdAt 77 w' p r false ∧ Kept (fun k => k = p) w w' := by
  have := readS_any h
  have e : s.data.toList.length = s.size := Array.length_toList
  unfold rdStr eS at this
  rw [List.append_assoc, rdNum_put (by omega)] at this
  rw [if_neg (by simp)] at this
  simpa using this
end
end Go.Proofs.Ytifldkcfbggkeaa
