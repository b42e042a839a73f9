/- The law's own 'awake' over the disk answers true. Conditions: none. -/
import Derived.Test.YtifldkcfbggkeaaDiskR
import Derived.Lib.SlBytesConst
import Derived.BigQuiet
namespace Go.Proofs.Ytifldkcfbggkeaa
open Go.RowKit

section
variable {b a m cc : Nat} {A : Option Addr} {w : World}

theorem write_to {d d' : Dk} {sector r : Int} {l : List UInt8} (h : DiskAt w b a d) (hl : Bts w A m cc l) (e : d.write sector l = (d', r)) :
    Calls Try.prog 16 #[.pointer (some ⟨b, 0, none⟩), .int .i64 sector, .slice A m cc] w fun e w' => e = .returned (.int .i64 r) ∧ DiskAt w' b a d' ∧ Kept (DS b a) w w' := by
  have := write_any d sector l h hl
  rw [e] at this
  exact this

theorem bts_one (W : World) (x : UInt8) (k : Int) (hk : k = (x.toNat : Int)) (mk : Nat × Nat) :
    Bts (W.alloc (.cells #[.int .u8 k] 5 mk)) (some ⟨W.heap.size, 0, none⟩) 1 1 [x] := by
  refine ⟨by simp, ⟨rfl, fun _ => ⟨_, rfl, by simp, fun j u hu => ?_⟩⟩, Nat.le_refl _, by unfold maxLen; omega, rfl⟩
  match j, hu with
  | 0, hu =>
    simp at hu
    subst hu
    rw [show (⟨W.heap.size, 0, none⟩ : Addr).add 0 = ⟨W.heap.size, 0, none⟩ from rfl, World.cell?_alloc_mark]
    simp [byt, hk]

theorem Kept.low {S : Nat → Prop} {B : Nat} {w0 w1 w2 : World} (h0 : Below B w0 w1) (hB : B ≤ w0.heap.size) (hS : ∀ i, S i → B ≤ i) (h : Kept S w1 w2) : Below B w0 w2 :=
  h0.trans (h.below (Nat.le_trans hB h0.size) hS)

def k2 : Dk := { S := [pad [120], zeros64], off := false, cut := 0, odd := false, writes := 1, lives := 1 }
def k3 : Dk := { S := [pad [120], zeros64], off := false, cut := 1, odd := false, writes := 1, lives := 1 }
def k4 : Dk := { S := [pad [120], zeros64], off := true, cut := 0, odd := false, writes := 1, lives := 1 }
def k5 : Dk := { S := [pad [120], zeros64], off := false, cut := 0, odd := false, writes := 1, lives := 2 }
theorem k12 : (Dk.new (2 : Int).toNat).write 0 [120] = (k2, 0) := by kernel_rfl
theorem k23 : k2.armed 1 0 = k3 := by kernel_rfl
theorem k34 : k3.write 0 [121] = (k4, 4) := by kernel_rfl
theorem k45 : k4.on = k5 := by kernel_rfl
theorem k5s : k5.S[0]? = some (pad [120]) := by kernel_rfl
theorem k4m : k4.may 0 0 = 4 := by kernel_rfl

set_option maxHeartbeats 1000000 in
theorem awake4 (w : World) : Calls Try.prog 13 #[] w fun e w' => e = .returned (.bool true) ∧ Below w.heap.size w w' := by
  have kc := fun (w : World) (C : Array Value) (n c : Nat) => Lib.run_convert_bytes_const (P := Try.prog) w 27 5 C n c Try.underlying27 Try.underlying5
  go_enter Try.func13, Try.ntmps13
  go_wp2_with fail
  refine (new_ok 2 w (by omega) (by omega)).mono ?_
  rintro e w1 ⟨b, a, rfl, hd1, hb, ha, hbel1⟩
  go_wp2_with fail
  refine (write_to (hd1.below ((Below.refl _ _).alloc (Nat.le_refl _) _)) (bts_one w1 120 120 rfl _) k12).mono ?_
  rintro e w2 ⟨rfl, hd2, hk2⟩
  have hB2 : Below w.heap.size w w2 := Kept.low (hbel1.alloc hbel1.size _) (Nat.le_refl _) (by rintro i (rfl | rfl) <;> assumption) hk2
  clear hk2 hd1 hbel1
  go_wp2_with fail
  refine (cut_any k2 1 0 (by omega) hd2).mono ?_
  rw [k23]
  rintro e w3 ⟨rfl, hd3, hk3⟩
  have hB3 : Below w.heap.size w w3 := Kept.low hB2 (Nat.le_refl _) (by rintro i (rfl | rfl) <;> assumption) hk3
  clear hk3 hd2 hB2
  go_wp2_with fail
  refine (write_to (hd3.below ((Below.refl _ _).alloc (Nat.le_refl _) _)) (bts_one w3 121 121 rfl _) k34).mono ?_
  rintro e w4 ⟨rfl, hd4, hk4⟩
  have hB4 : Below w.heap.size w w4 := Kept.low (hB3.alloc hB3.size _) (Nat.le_refl _) (by rintro i (rfl | rfl) <;> assumption) hk4
  clear hk4 hd3 hB3
  go_wp2_with fail
  refine (power_any k4 hd4).mono ?_
  rintro e w4' ⟨rfl, rfl⟩
  go_wp2_with fail
  refine (copy_any k4 hd4).mono ?_
  rintro e w5 ⟨b', a', rfl, hc5, hb', ha', hbel5⟩
  have hd5 := hd4.below hbel5
  have hB5 : Below w.heap.size w w5 := hB4.trans (hbel5.mono hB4.size)
  have hnb := hd4.ltb
  have hna := hd4.lta
  clear hd4 hbel5
  go_wp2_with fail
  refine (on_any k4 hd5).mono ?_
  rw [k45]
  rintro e w6 ⟨rfl, hd6, hk6⟩
  have hB6 : Below w.heap.size w w6 := Kept.low hB5 (Nat.le_refl _) (by rintro i (rfl | rfl) <;> assumption) hk6
  have hc6 : DiskAt w6 b' a' k4 := hc5.other hd5 hk6 (by omega) (by omega)
  go_wp2_with fail
  refine (read_ok k5 0 _ hd6 k5s rfl).mono ?_
  rintro e w7 ⟨g, c, rfl, hown, hbel7⟩
  have hc7 := hc6.below hbel7
  have hd7 := hd6.below hbel7
  have hB7 : Below w.heap.size w w7 := hB6.trans (hbel7.mono hB6.size)
  clear hc6 hd6 hbel7 hB6
  go_wp2_with fail
  have CR := read_no k4 0 hc7 (by rw [k4m]; omega)
  rw [k4m] at CR
  refine CR.mono ?_
  rintro e w8 ⟨rfl, rfl⟩
  have cell0 : w7.cell? ⟨g, 0, none⟩ = some (.int .u8 120) := hown.cells (g := g) rfl 0 _ rfl
  have C1 := Lib.hid (lives_any k5 hd7)
  have C2 := Lib.hid (writes_any k5 hd7)
  have C3 := Lib.hid (sectors_any k5 hd7)
  have C4 := Lib.hid (power_any k5 hd7)
  clear CR hown
  go_wp2_with (first
    | (go_at_call 26; refine C1.out.mono ?_; rintro e w9 ⟨rfl, rfl⟩)
    | (go_at_call 25; refine C2.out.mono ?_; rintro e w9 ⟨rfl, rfl⟩)
    | (go_at_call 46; refine C3.out.mono ?_; rintro e w9 ⟨rfl, rfl⟩)
    | (go_at_call 24; refine C4.out.mono ?_; rintro e w9 ⟨rfl, rfl⟩))
  go_ret
  exact ⟨rfl, hB7⟩
end
end Go.Proofs.Ytifldkcfbggkeaa
