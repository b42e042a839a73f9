/- The walk of DiskKnown. Conditions: none. -/
import Derived.Test.YtifldkcfbggkeaaDiskA
namespace Go.Proofs.Ytifldkcfbggkeaa
open Go.RowKit

def z65 : List UInt8 := List.replicate 65 0
def z65row : Array Value := (z65.map byt).toArray
theorem make_65 (w : World) :
    (Instr.makeSlice 27 (.int .i64 65) (.int .i64 65)).run Try.prog w = .ok (.slice (some ⟨w.heap.size, 0, none⟩) 65 65) (w.alloc (.cells z65row 5)) := by
  obtain ⟨i0, hi0, hz0, hz1, hz2⟩ := info_parts info_u8
  have hr := run_make (P := Try.prog) w 27 5 i0 (.int .u8 0) Try.underlying27 hi0 hz0 .i64 .i64 65 65 (by omega) (by omega) (by rw [hz2]; omega) (by omega)
  rw [hz1] at hr
  have e : madeCells (Value.int .u8 0).cells ((65 : Int).toNat * 1) = z65row := by kernel_rfl
  rw [e] at hr
  exact hr

theorem add_zero_off (g j : Nat) : (⟨g, 0, none⟩ : Addr).add j = ⟨g, j, none⟩ := by unfold Addr.add; by_cases e : j = 0 <;> simp [e]

/-- A whole block of bytes, as a slice. -/
theorem bts_blk {w : World} {g n : Nat} {l : List UInt8} (h : Blk w g 5 (l.map byt).toArray) (hl : l.length = n) (hm : n ≤ maxLen) : Bts w (some ⟨g, 0, none⟩) n n l := by
  refine ⟨by simp, ⟨by simp [hl], fun _ => ⟨_, rfl, h.lt, fun j u hu => ?_⟩⟩, Nat.le_refl _, hm, hl⟩
  rw [add_zero_off, h.cell j]
  simpa using hu
theorem bts_nil (w : World) : Bts w none 0 0 [] := ⟨fun _ => ⟨rfl, rfl⟩, Reads.none_, Nat.le_refl _, Nat.zero_le _, rfl⟩

theorem k1r : (Dk.new (1 : Int).toNat).may 1 0 = 1 := by kernel_rfl
theorem k1w : (Dk.new (1 : Int).toNat).write 0 z65 = (Dk.new 1, 1) := by kernel_rfl
theorem k1v : (Dk.new 1).write (-1) [] = (Dk.new 1, 1) := by kernel_rfl

set_option maxHeartbeats 1000000 in
theorem known4 (w : World) : Calls Try.prog 3 #[] w fun e w' => e = .returned (.bool true) ∧ Below w.heap.size w w' := by
  go_enter Try.func3, Try.ntmps3
  go_wp2_with fail
  refine (awake4 w).mono ?_
  rintro e w1 ⟨rfl, hB1⟩
  go_wp2_with fail
  refine (new_no 0 w1 (by omega)).mono ?_
  rintro e w1' ⟨rfl, rfl⟩
  go_wp2_with fail
  refine (new_no 4097 w1 (by omega)).mono ?_
  rintro e w1' ⟨rfl, rfl⟩
  go_wp2_with fail
  refine (new_ok 1 w1 (by omega) (by omega)).mono ?_
  rintro e w2 ⟨b, a, rfl, hd2, hb, ha, hbel2⟩
  have hB2 : Below w.heap.size w w2 := hB1.trans (hbel2.mono hB1.size)
  have hsz := hB1.size
  clear hB1 hbel2
  go_wp2_with fail
  have CR := read_no _ 1 hd2 (by rw [k1r]; omega)
  rw [k1r] at CR
  refine CR.mono ?_
  rintro e w2' ⟨rfl, rfl⟩
  clear CR
  have hmk := make_65
  go_wp2_with fail
  refine (write_to (hd2.below ((Below.refl _ _).alloc (Nat.le_refl _) _)) (bts_blk (Blk.new w2 5 z65row) (by simp [z65]) (by unfold maxLen; omega)) k1w).mono ?_
  rintro e w3 ⟨rfl, hd3, hk3⟩
  have hB3 : Below w.heap.size w w3 := Kept.low (hB2.alloc hB2.size _) (Nat.le_refl _) (by rintro i (rfl | rfl) <;> omega) hk3
  clear hk3 hd2 hB2
  go_wp2_with fail
  refine (write_to hd3 (bts_nil w3) k1v).mono ?_
  rintro e w4 ⟨rfl, hd4, hk4⟩
  have hB4 : Below w.heap.size w w4 := Kept.low hB3 (Nat.le_refl _) (by rintro i (rfl | rfl) <;> omega) hk4
  clear hk4 hd3 hB3
  go_wp2
  go_ret
  exact ⟨rfl, hB4⟩
end Go.Proofs.Ytifldkcfbggkeaa
