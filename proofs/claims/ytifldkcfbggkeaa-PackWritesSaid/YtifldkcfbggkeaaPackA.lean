/- The law's own 'awake' over pack answers true. Conditions: none. -/
import Derived.Test.YtifldkcfbggkeaaPackI
import Derived.Test.YtifldkcfbggkeaaPackS
import Derived.Test.YtifldkcfbggkeaaPackC
import Derived.Test.YtifldkcfbggkeaaDiskKnownW
import Derived.Lib.SlBytesConst
namespace Go.Proofs.Ytifldkcfbggkeaa
open Go.RowKit

theorem Put.bts {w w' : World} {r : List UInt8} {g c : Nat} (h : w'.ownsRow w.heap.size 5 1 (.slice (some ⟨g, 0, none⟩) r.length c) r.length (r.map byt)) : Bts w' (some ⟨g, 0, none⟩) r.length c r := own_bts h
theorem Bts.below {w w' : World} {A : Option Addr} {n c : Nat} {l : List UInt8} (h : Bts w A n c l) (hb : Below w.heap.size w w') : Bts w' A n c l :=
  (BtsB.below (show BtsB w w.heap.size A n c l from h) hb).bts hb.size
theorem bts_lit (W : World) (l : List UInt8) (n : Nat) (hn : l.length = n) (hm : n ≤ maxLen) (mk : Nat × Nat) :
    Bts (W.alloc (.cells (l.map byt).toArray 5 mk)) (some ⟨W.heap.size, 0, none⟩) n n l := by
  refine ⟨by simp, ⟨by simp [hn], fun _ => ⟨_, rfl, by simp, fun j u hu => ?_⟩⟩, Nat.le_refl _, hm, hn⟩
  rw [add_zero_off, World.cell?_alloc_mark]
  simpa using hu

theorem u300 : putU 300 = [172, 2] := by rw [putU_big (by omega), putU_small (by omega)]; rfl
theorem im1 : putU (zig (-1)) = [1] := by rw [show zig (-1) = 1 from rfl, putU_small (by omega)]; rfl
theorem sab : putU ([97, 98] : List UInt8).length = [2] := by rw [show ([97, 98] : List UInt8).length = 2 from rfl, putU_small (by omega)]; rfl
theorem a1 : rdNum [172, 2, 1, 2, 97, 98] false = (300, [1, 2, 97, 98], false) := by kernel_rfl
theorem a2 : rdInt [1, 2, 97, 98] false = (-1, [2, 97, 98], false) := by kernel_rfl
theorem a3 : rdStr [2, 97, 98] false = ([97, 98], [], false) := by kernel_rfl
theorem a4 : sumOf [49, 50, 51, 52, 53, 54, 55, 56, 57] = 3421780262 := by kernel_rfl

theorem low {B p : Nat} {w0 w1 w2 : World} (h0 : Below B w0 w1) (hB : B ≤ w0.heap.size) (hp : B ≤ p) (h : Kept (fun k => k = p) w1 w2) : Below B w0 w2 :=
  Kept.low h0 hB (by rintro i rfl; exact hp) h

set_option maxHeartbeats 2000000 in
set_option maxRecDepth 100000 in
theorem awake3 (w : World) : Calls Try.prog 28 #[] w fun e w' => e = .returned (.bool true) ∧ Below w.heap.size w w' := by
  obtain ⟨i0, hi0, hz0, hz1, hz2⟩ := info_parts info_u8
  have kc := fun (w : World) (C : Array Value) (n c : Nat) => Lib.run_convert_bytes_const (P := Try.prog) w 27 5 C n c Try.underlying27 Try.underlying5
  go_enter Try.func28, Try.ntmps28
  go_wp2_with fail
  have C1 := packU_any 300 (bts_nil w) (by omega) (by omega)
  rw [List.nil_append, u300] at C1
  refine C1.mono ?_
  rintro e w1 ⟨g1, c1, rfl, hown1, hb1⟩
  clear C1
  go_wp2_with fail
  have C2 := packI_any (-1) (bts_nil w1) (by omega) (by omega) (by omega)
  rw [List.nil_append, im1] at C2
  refine C2.mono ?_
  rintro e w2 ⟨g2, c2, rfl, hown2, hb2⟩
  clear C2
  go_wp2_with fail
  have C3 := packS_any [97, 98] (bts_nil w2) (by simp)
  rw [List.nil_append, sab] at C3
  refine C3.mono ?_
  rintro e w3 ⟨g3, c3, rfl, hown3, hb3⟩
  clear C3
  have B1 : Bts w3 (some ⟨g1, 0, none⟩) 2 c1 [172, 2] := ((Put.bts hown1).below hb2).below hb3
  have B2 : Bts w3 (some ⟨g2, 0, none⟩) 1 c2 [1] := (Put.bts hown2).below hb3
  have B3 : Bts w3 (some ⟨g3, 0, none⟩) 3 c3 [2, 97, 98] := Put.bts hown3
  have hB3 : Below w.heap.size w w3 := (hb1.trans (hb2.mono hb1.size)).trans (hb3.mono (Nat.le_trans hb1.size hb2.size))
  clear hown1 hown2 hown3 hb1 hb2 hb3
  go_wp2_with (first
    | (at_builtin; refine wpList_append_any _ rfl (.tmp 12) (.tmp 13) _ rfl w3.heap.size 5 i0 _ 1 1 Try.underlying27 hi0 hz0 hz1 hz2 rfl (by omega) (.slice (some ⟨w3.heap.size, 0, none⟩) 0 0) 0 [] rfl (World.ownsRow_lit w3 #[] 0 (Nat.le_refl _) (by unfold maxLen; omega) rfl) w3.heap.size (some ⟨g1, 0, none⟩) 2 c1 (([172, 2] : List UInt8).map byt) rfl (B1.2.1.alloc (Nat.le_refl _) _) (byt_one _) (by unfold maxLen; omega) (by omega) (by simp) ?_; intro v4 w4 hown4 hg4 hat4
       have hb4 : Below w3.heap.size w3 w4 := ((Below.refl _ _).alloc (Nat.le_refl _) _).grown hg4 (by simp) (fun k hk => by simp [Value.ownBlock] at hk; omega))
    | (at_builtin; refine wpList_append_any _ rfl (.tmp 14) (.tmp 15) _ rfl w3.heap.size 5 i0 _ 1 1 Try.underlying27 hi0 hz0 hz1 hz2 rfl (by omega) v4 (0 + 2) _ rfl hown4 w3.heap.size (some ⟨g2, 0, none⟩) 1 c2 (([1] : List UInt8).map byt) rfl (B2.2.1.below hb4) (byt_one _) (by unfold maxLen; omega) (by omega) hb4.size ?_; intro v5 w5 hown5 hg5 hat5
       have hb5 : Below w3.heap.size w3 w5 := hb4.grown hg5 hb4.size (fun k hk => (hown4.lt k hk).1))
    | (at_builtin; refine wpList_append_any _ rfl (.tmp 16) (.tmp 17) _ rfl w3.heap.size 5 i0 _ 1 1 Try.underlying27 hi0 hz0 hz1 hz2 rfl (by omega) v5 (0 + 2 + 1) _ rfl hown5 w3.heap.size (some ⟨g3, 0, none⟩) 3 c3 (([2, 97, 98] : List UInt8).map byt) rfl (B3.2.1.below hb5) (byt_one _) (by unfold maxLen; omega) (by omega) hb5.size ?_; intro v6 w6 hown6 hg6 hat6
       have hb6 : Below w3.heap.size w3 w6 := hb5.grown hg6 hb5.size (fun k hk => (hown5.lt k hk).1)
       obtain ⟨A6, c6, rfl⟩ := own_shape hown6))
  have B6 : Bts w6 A6 6 c6 [172, 2, 1, 2, 97, 98] := own_bts (l := [172, 2, 1, 2, 97, 98]) hown6
  have hB6 : Below w.heap.size w w6 := hB3.trans (hb6.mono hB3.size)
  have D1 := B1.below hb6
  have D2 := B2.below hb6
  have D3 := B3.below hb6
  clear B1 B2 B3 hB3 hown4 hg4 hat4 hb4 hown5 hg5 hat5 hb5 hown6 hg6 hat6 hb6
  refine (read_new B6 (by omega)).mono ?_
  rintro e w7 ⟨p, rfl, hr7, hp, hb7⟩
  have E1 : BtsB w7 w6.heap.size (some ⟨g1, 0, none⟩) 2 c1 [172, 2] := BtsB.below D1 hb7
  have E2 : BtsB w7 w6.heap.size (some ⟨g2, 0, none⟩) 1 c2 [1] := BtsB.below D2 hb7
  have E3 : BtsB w7 w6.heap.size (some ⟨g3, 0, none⟩) 3 c3 [2, 97, 98] := BtsB.below D3 hb7
  have hz6 := hb7.size
  have hB7 : Below w.heap.size w w7 := hB6.trans (hb7.mono hB6.size)
  have hpw : w.heap.size ≤ p := Nat.le_trans hB6.size hp
  clear D1 D2 D3 B6 hB6 hb7
  go_wp2_with fail
  refine (left_any hr7).mono ?_
  rintro e w7' ⟨rfl, rfl⟩
  have C := readU_any hr7
  rw [a1] at C
  dsimp only at C
  go_wp2_with fail
  refine C.mono ?_
  rintro e w8 ⟨rfl, hr8, hk⟩
  clear C
  have hB8 : Below w.heap.size w w8 := low hB7 (Nat.le_refl _) hpw hk
  have E1 := E1.kept hz6 hk (by rintro i rfl; exact hp)
  have E2 := E2.kept hz6 hk (by rintro i rfl; exact hp)
  have E3 := E3.kept hz6 hk (by rintro i rfl; exact hp)
  have hz7 := Nat.le_trans hz6 hk.size
  clear hk hr7
  have C := readI_any hr8
  rw [a2] at C
  dsimp only at C
  go_wp2_with fail
  refine C.mono ?_
  rintro e w9 ⟨rfl, hr9, hk⟩
  clear C
  have hB9 : Below w.heap.size w w9 := low hB8 (Nat.le_refl _) hpw hk
  have E1 := E1.kept hz7 hk (by rintro i rfl; exact hp)
  have E2 := E2.kept hz7 hk (by rintro i rfl; exact hp)
  have E3 := E3.kept hz7 hk (by rintro i rfl; exact hp)
  have hz8 := Nat.le_trans hz7 hk.size
  clear hk hr8
  have C := readS_any hr9
  rw [a3] at C
  dsimp only at C
  go_wp2_with fail
  refine C.mono ?_
  rintro e w10 ⟨rfl, hr10, hk⟩
  clear C
  have hB10 : Below w.heap.size w w10 := low hB9 (Nat.le_refl _) hpw hk
  have E1 := E1.kept hz8 hk (by rintro i rfl; exact hp)
  have E2 := E2.kept hz8 hk (by rintro i rfl; exact hp)
  have E3 := E3.kept hz8 hk (by rintro i rfl; exact hp)
  have hz9 := Nat.le_trans hz8 hk.size
  clear hk hr9
  have cv1 := run_string_of w10 27 9 5 Try.underlying27 Try.underlying5 Try.underlying9 (c := c1) E1.2.1
  have cv2 := run_string_of w10 27 9 5 Try.underlying27 Try.underlying5 Try.underlying9 (c := c2) E2.2.1
  have cv3 := run_string_of w10 27 9 5 Try.underlying27 Try.underlying5 Try.underlying9 (c := c3) E3.2.1
  clear E1 E2 E3
  go_wp2_with fail
  refine (bad_any hr10).mono ?_
  rintro e w10' ⟨rfl, rfl⟩
  go_wp2_with fail
  refine (left_any hr10).mono ?_
  rintro e w10' ⟨rfl, rfl⟩
  go_wp2_with fail
  have C := sum_any (bts_lit w10 [49, 50, 51, 52, 53, 54, 55, 56, 57] 9 rfl (by unfold maxLen; omega) (9, 10))
  rw [a4] at C
  refine C.mono ?_
  rintro e w11 ⟨rfl, rfl⟩
  go_wp2
  go_ret
  exact ⟨rfl, hB10.alloc hB10.size _⟩
end Go.Proofs.Ytifldkcfbggkeaa
