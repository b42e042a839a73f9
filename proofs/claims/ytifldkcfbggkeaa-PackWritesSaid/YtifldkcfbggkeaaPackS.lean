/- pack's reader: Read, I, S. Conditions: the reader lies in memory as RdAt says. -/
import Derived.Test.YtifldkcfbggkeaaPackR
namespace Go.Proofs.Ytifldkcfbggkeaa
open Go.RowKit

def rdInt (l : List UInt8) (bad : Bool) : Int × List UInt8 × Bool := (unzig (rdNum l bad).1, (rdNum l bad).2)
/-- A text read. -/
def rdStr (l : List UInt8) (bad : Bool) : List UInt8 × List UInt8 × Bool :=
  if (rdNum l bad).2.1.length < (rdNum l bad).1 then ([], [], true)
  else ((rdNum l bad).2.1.take (rdNum l bad).1, (rdNum l bad).2.1.drop (rdNum l bad).1, (rdNum l bad).2.2)

theorem rdU_lt (l : List UInt8) : ∀ (i acc u : Nat) (r : List UInt8), i ≤ 9 → acc < 2 ^ (7 * i) → rdU i acc l = some (u, r) → u < 18446744073709551616 := by
  induction l with
  | nil => intro i acc u r _ _ h; simp [rdU] at h
  | cons x l ih =>
    intro i acc u r hi ha h
    rw [rdU] at h
    by_cases e1 : i = 9 ∧ 1 < x.toNat
    · rw [if_pos e1] at h; cases h
    · rw [if_neg e1] at h
      obtain ⟨-, h64, hn⟩ := rd_bits acc x.toNat i ha hi x.toNat_lt (by omega)
      by_cases e2 : 128 ≤ x.toNat
      · rw [if_pos e2] at h
        exact ih _ _ _ _ (by omega) (hn (by omega)) h
      · rw [if_neg e2] at h
        split at h
        · cases h
        · simp only [Option.some.injEq, Prod.mk.injEq] at h
          omega
theorem rdNum_lt (l : List UInt8) (bad : Bool) : (rdNum l bad).1 < 18446744073709551616 := by
  unfold rdNum
  split
  · exact rdU_lt l 0 0 _ _ (by omega) (by simp) ‹_›
  · simp

theorem not_bits (a : Nat) (h : a < 9223372036854775808) : bits .xor .i64 (a : Int) (-1) = -(a : Int) - 1 := by
  have e1 : (BitVec.ofInt 64 (a : Int)).toNat = a := by rw [BitVec.ofInt_natCast, BitVec.toNat_ofNat]; exact Nat.mod_eq_of_lt (by omega)
  have e2 : (BitVec.ofInt 64 (-1)).toNat = 2 ^ 64 - 1 := by decide
  show IntKind.i64.wrap ((BitVec.ofInt 64 (a : Int) ^^^ BitVec.ofInt 64 (-1)).toNat : Int) = _
  rw [BitVec.toNat_xor, e1, e2, xor_ones 64 a (by omega), IntKind.wrap_i64]
  omega
theorem zero_bits (a : Nat) (h : a < 9223372036854775808) : bits .xor .i64 (a : Int) 0 = (a : Int) := by
  have e1 : (BitVec.ofInt 64 (a : Int)).toNat = a := by rw [BitVec.ofInt_natCast, BitVec.toNat_ofNat]; exact Nat.mod_eq_of_lt (by omega)
  have e2 : (BitVec.ofInt 64 0).toNat = 0 := by decide
  show IntKind.i64.wrap ((BitVec.ofInt 64 (a : Int) ^^^ BitVec.ofInt 64 0).toNat : Int) = _
  rw [BitVec.toNat_xor, e1, e2, Nat.xor_zero, IntKind.wrap_i64]
  omega

theorem unzig_bits (u : Nat) (h : u < 18446744073709551616) : bits .xor .i64 ((u : Int) / 2) (wrap64 (-wrap64 (bits .and .u64 (u : Int) 1))) = unzig u := by
  have e1 : bits .and .u64 (u : Int) 1 = ((u % 2 : Nat) : Int) := by
    have := u64_and_nat u 1 h (by omega)
    rw [nat_mask1] at this
    exact this
  have e2 : ((u : Int) / 2) = ((u / 2 : Nat) : Int) := by omega
  rw [e1, e2]
  unfold unzig
  by_cases h2 : u % 2 = 0
  · rw [if_pos h2, h2]
    rw [show wrap64 (-wrap64 ((0 : Nat) : Int)) = 0 from by unfold wrap64; omega]
    exact zero_bits (u / 2) (by omega)
  · have h3 : u % 2 = 1 := by omega
    rw [if_neg h2, h3]
    rw [show wrap64 (-wrap64 ((1 : Nat) : Int)) = -1 from by unfold wrap64; omega]
    exact not_bits (u / 2) (by omega)

section
variable {w : World} {p : Nat} {l : List UInt8} {bad : Bool}

set_option maxHeartbeats 400000 in
theorem read_new {A : Option Addr} {n c : Nat} (h : Bts w A n c l) (hn : n ≤ 140737488355328) :
    Calls Try.prog 29 #[.slice A n c] w fun e w' => ∃ p, e = .returned (.pointer (some ⟨p, 0, none⟩)) ∧ RdAt 77 w' p l false ∧ w.heap.size ≤ p ∧ Below w.heap.size w w' := by
  have C := Lib.hid (clone_any h hn)
  go_enter Try.func29, Try.ntmps29
  go_wp2_with fail
  refine C.out.mono ?_
  rintro e w1 ⟨v, rfl, hown, hbel⟩
  obtain ⟨A1, c1, rfl⟩ := own_shape hown
  have HO := Lib.hid hown
  clear hown
  go_wp2
  go_ret
  have hb := own_bts HO.out
  refine ⟨w1.heap.size, rfl, ⟨A1, l.length, c1, Blk.new _ _ _, (show BtsB w1 w1.heap.size A1 l.length c1 l from hb).below ((Below.refl _ _).alloc (Nat.le_refl _) _)⟩, hbel.size, hbel.alloc hbel.size _⟩

set_option maxHeartbeats 400000 in
theorem readI_any (h : RdAt 77 w p l bad) :
    Calls Try.prog 31 #[.pointer (some ⟨p, 0, none⟩)] w fun e w' => e = .returned (.int .i64 (rdInt l bad).1) ∧ RdAt 77 w' p (rdInt l bad).2.1 (rdInt l bad).2.2 ∧ Kept (fun k => k = p) w w' := by
  have C := Lib.hid (readU_any h)
  have hlt := rdNum_lt l bad
  have hr : rdInt l bad = (unzig (rdNum l bad).1, (rdNum l bad).2) := rfl
  rw [hr]
  generalize rdNum l bad = q at C hlt ⊢
  obtain ⟨u, l', bad'⟩ := q
  dsimp only at C hlt ⊢
  clear hr
  go_enter Try.func31, Try.ntmps31
  go_wp2_with fail
  refine C.out.mono ?_
  rintro e w1 ⟨rfl, hr1, hk1⟩
  go_wp2
  go_ret
  exact ⟨ret_int (unzig_bits u hlt), hr1, hk1⟩

set_option maxHeartbeats 400000 in
theorem readS_any (h : RdAt 77 w p l bad) :
    Calls Try.prog 34 #[.pointer (some ⟨p, 0, none⟩)] w fun e w' => e = .returned (.string ⟨(rdStr l bad).1.toArray⟩) ∧ RdAt 77 w' p (rdStr l bad).2.1 (rdStr l bad).2.2 ∧ Kept (fun k => k = p) w w' := by
  have C := Lib.hid (readU_any h)
  have hlt := rdNum_lt l bad
  unfold rdStr
  generalize rdNum l bad = q at C hlt ⊢
  obtain ⟨u, l', bad'⟩ := q
  dsimp only at C hlt ⊢
  by_cases hu : l'.length < u
  · rw [if_pos hu]
    go_enter Try.func34, Try.ntmps34
    go_wp2_with fail
    refine C.out.mono ?_
    rintro e w1 ⟨rfl, hr1, hk1⟩
    have SP := Lib.hid (spoil_any hr1)
    obtain ⟨A, n, c, hb, h0, hrd, hnc, hcm, hln⟩ := id hr1
    subst hln
    unfold maxLen at hcm
    obtain ⟨c0, c1⟩ := rd_cells hb
    clear hb
    go_wp2_with fail
    refine SP.out.mono ?_
    rintro e w2 ⟨rfl, hr2, hk2⟩
    go_wp2
    go_ret
    exact ⟨rfl, hr2, hk1.trans hk2 (fun _ _ h => h)⟩
  · rw [if_neg hu]
    go_enter Try.func34, Try.ntmps34
    go_wp2_with fail
    refine C.out.mono ?_
    rintro e w1 ⟨rfl, hr1, hk1⟩
    obtain ⟨A, n, c, hb, h0, hrd, hnc, hcm, hln⟩ := id hr1
    subst hln
    have hcut : ∀ A', A' = (if c = u then A else A.map (·.add u)) → RdAt 77 (w1.setCell ⟨p, 0, none⟩ (.slice A' (l'.length - u) (c - u))) p (l'.drop u) bad' := fun A' hA => rd_cut hb h0 hrd hnc hcm rfl (by omega) hA
    unfold maxLen at hcm
    obtain ⟨c0, c1⟩ := rd_cells hb
    have f0 := hb.frozen 0
    have cv := run_string_of w1 27 9 5 Try.underlying27 Try.underlying5 Try.underlying9 (c := c) (l := l'.take u) (by rw [List.map_take]; exact hrd.take_ (by omega))
    have HCUT := Lib.hid hcut
    clear hb hcut
    go_wp2_with fail
    · go_ret
      have hz := HCUT.out A (by rw [if_pos ‹c = u›])
      first
        | exact ⟨rfl, hz, hk1.trans (Kept.set Kept.refl (by exact rfl)) (fun _ _ h => h)⟩
        | (rw [show c - u = 0 by omega] at hz; exact ⟨rfl, hz, hk1.trans (Kept.set Kept.refl (by exact rfl)) (fun _ _ h => h)⟩)
    · go_ret
      have hz := HCUT.out _ (by rw [if_neg ‹¬ c = u›])
      exact ⟨rfl, hz, hk1.trans (Kept.set Kept.refl (by exact rfl)) (fun _ _ h => h)⟩
end
end Go.Proofs.Ytifldkcfbggkeaa
