/- The texts of this proof, joined: contracts of the functions that the law reaches, and what they come to in plain Lean. Conditions: those that each theorem names. -/
import Derived.Test.YtlbikfamjogpnaaMFrameKnown1
import Derived.Test.YtlbikfamjogpnaaMFrameKnown0

/- The law's own 'awake' over frames answers true. Conditions: none. -/
section
namespace Go.Proofs.Ytlbikfamjogpnaa
open Go.RowKit
set_option linter.unusedVariables false
set_option linter.unusedSimpArgs false

theorem clean_end {S : List (List UInt8)} {first sectors u : Nat} {P : Fr → Prop} (h : Clean S first sectors u) : ∀ f, frameAt S first sectors u = some f → P f := by
  intro f hf
  rw [h.none] at hf
  cases hf
theorem DiskAt.area {w w' : World} {B p b a : Nat} {A : Ar} {d : Dk} (h : DiskAt w b a d) (ha : AreaAt w B p b A) (hk : DKept (fun k => k = p) w w') : DiskAt w' b a d := by
  obtain ⟨_, At, c, hA, _⟩ := ha
  have hn := h.apart97 hA
  exact h.keep (hk.block b h.ltb (fun e => hn (.inl e.symm))) (hk.block a h.lta (fun e => hn (.inr e.symm))) (fun g cs hg => hk.blk hg (fun e => by subst e; exact hg.ne_ hA (by decide) rfl))
theorem AreaAt.disk {w w' : World} {B p b a : Nat} {A : Ar} {d : Dk} (h : AreaAt w B p b A) (hd : DiskAt w b a d) (hk : DKept (DS b a) w w') : AreaAt w' B p b A := by
  obtain ⟨h0, At, c, hA, ho⟩ := h
  exact ⟨h0, At, c, hk.blk hA (hd.apart97 hA), own_keep ho fun g hg => hk.block g (ho.lt g hg).2 (hd.apartI ho hg)⟩
theorem DKept.area {w0 w w' : World} {B p b : Nat} {A : Ar} (hB : Below w0.heap.size w0 w) (ha : AreaAt w B p b A) (hp : w0.heap.size ≤ B) (hk : DKept (fun k => k = p) w w') : Below w0.heap.size w0 w' :=
  DKept.low hB (Nat.le_refl _) (by rintro i rfl; exact Nat.le_trans hp ha.1) hk

set_option maxRecDepth 100000 in
set_option maxHeartbeats 4000000 in
theorem awake5 (w : World) : Calls Try.prog 13 #[] w fun e w' => e = .returned (.bool true) ∧ Below w.heap.size w w' := by
  have kc := fun (w : World) (C : Array Value) (n c : Nat) => Lib.run_convert_bytes_const (P := Try.prog) w 36 5 C n c Try.underlying36 Try.underlying5
  go_enter Try.func13, Try.ntmps13
  go_wp2_with fail
  refine (new_ok 10 w (by omega) (by omega)).mono ?_
  rintro e w1 ⟨b, a, rfl, hd1, hb, ha, hB1⟩
  have P1 : Chain (Dk.new 10).S 2 6 7 [] := new_chain 10 2 6 7 (by omega)
  have C1 := new_clean 10 2 6
  have HB := Lib.hid hb
  have HAA := Lib.hid ha
  clear hb ha
  go_wp2_with fail
  refine (open_ok (fs := []) (Dk.new 10) 2 6 7 hd1 (by omega) P1 rfl rfl (by omega) (clean_end C1)).mono ?_
  rintro e w2 ⟨p, A, rfl, ha2, hA, hp2, hB2⟩
  obtain rfl : A = ⟨1, 2, 6, 0, [], 0⟩ := hA
  have hd2 := hd1.below hB2
  have hB2' : Below w.heap.size w w2 := hB1.trans (hB2.mono hB1.size)
  have hBA : w.heap.size ≤ w1.heap.size := hB1.size
  have CA := Lib.hid (all_any ha2 (by show 0 ≤ _; omega))
  have CG := Lib.hid (fun V (hV : Later w2 V) => begin_any 7 (ha2.below hV))
  have CA : Hid (Calls Try.prog 21 #[.pointer (some ⟨p, 0, none⟩)] w2 fun e w' => ∃ A9 c9, e = .returned (.slice A9 0 c9) ∧ w'.ownsRow w2.heap.size 3 1 (.slice A9 0 c9) 0 [] ∧ Below w2.heap.size w2 w') := CA
  go_wp2_with fail
  refine CA.out.mono ?_
  rintro e w3 ⟨A9, c9, rfl, -, hB3⟩
  have ha3 := ha2.below hB3
  have hd3 := hd2.below hB3
  have hB3' : Below w.heap.size w w3 := hB2'.trans (hB3.mono hB2'.size)
  have CG0 := Lib.hid (CG.out w3 hB3)
  go_wp2_with fail
  refine CG0.out.mono ?_
  rintro e w4 ⟨rfl, ha4, hk4⟩
  have hd4 := hd3.area ha3 hk4
  have hB4' := DKept.area hB3' ha3 hBA hk4
  have ha4 : AreaAt w4 w1.heap.size p b ⟨1, 2, 6, 7, [], 0⟩ := ha4
  have hp4 : Plain ⟨1, 2, 6, 7, [], 0⟩ (Dk.new 10) [] := ⟨P1, rfl, rfl, rfl, rfl, rfl, by show 7 < _; omega⟩
  have ha5 := ha4.below ((Below.refl _ w4).alloc (Nat.le_refl _) (.cells #[.int .u8 97, .int .u8 98, .int .u8 99] 5 (3, 4)))
  have hd5 := hd4.below ((Below.refl _ w4).alloc (Nat.le_refl _) (.cells #[.int .u8 97, .int .u8 98, .int .u8 99] 5 (3, 4)))
  have hB5' : Below w.heap.size w (w4.alloc (.cells #[.int .u8 97, .int .u8 98, .int .u8 99] 5 (3, 4))) := hB4'.alloc hB4'.size _
  have hbt : Bts (w4.alloc (.cells #[.int .u8 97, .int .u8 98, .int .u8 99] 5 (3, 4))) (some ⟨w4.heap.size, 0, none⟩) 3 3 [97, 98, 99] := bts_lit w4 [97, 98, 99] 3 rfl (by unfold maxLen; omega) (3, 4)
  have CADD := Lib.hid (add_ok (Dk.new 10) 5 ha5 hd5 hp4 hbt (by omega) (by decide))
  have HP4 := Lib.hid hp4
  have HBA := Lib.hid hBA
  clear CG CG0 hk4 hB3 hB3' ha3 hd3 ha2 hd2 hB2 hB2' hd1 CA kc hBA hp4 hp2 P1 hbt hd4 ha4 hB4' hB1
  have kc := fun (w : World) (C : Array Value) (n c : Nat) => Lib.run_convert_bytes_const (P := Try.prog) w 36 5 C n c Try.underlying36 Try.underlying5
  go_wp2_with fail
  refine CADD.out.mono ?_
  rintro e w6 ⟨d6, rfl, ha6, hd6, hp6, hwr6, hlv6, hk6⟩
  have hB6' := kept_low hB5' ha5 HBA.out HB.out HAA.out hk6
  have hcl6 : Clean d6.S 2 6 1 := by
    have := C1.more (n := 1) (m := 1) hwr6 (Nat.le_refl _)
    exact this
  have ha6 : AreaAt w6 w1.heap.size p b ⟨1, 2, 6, 7, [0], 1⟩ := ha6
  have hp6 : Plain ⟨1, 2, 6, 7, [0], 1⟩ d6 [(5, [97, 98, 99])] := hp6
  clear CADD kc hk6 hB5' ha5 hd5 hwr6
  go_wp2_with fail
  refine (get_ok d6 0 ha6 hd6 hp6 rfl).mono ?_
  rintro e w7 ⟨g7, c7, rfl, hg7, hbt7, hB7⟩
  have hB7' : Below w.heap.size w w7 := hB6'.trans (hB7.mono hB6'.size)
  have hd7 := hd6.below hB7
  clear hB7 ha6 hd6 hB6'
  go_wp2_with fail
  refine (open_ok d6 2 6 7 hd7 (by omega) hp6.chain hp6.off hp6.cut (by omega) (clean_end hcl6)).mono ?_
  rintro e w8 ⟨p8, A8, rfl, ha8, hA8, hp8, hB8⟩
  have hbt8 := hbt7.below hB8
  have hB8' : Below w.heap.size w w8 := hB7'.trans (hB8.mono hB7'.size)
  have cv : (convert 36 9 (.slice (some ⟨g7, 0, none⟩) 3 c7)).run Try.prog w8 = .ok (.string ⟨#[97, 98, 99]⟩) w8 := run_string_of w8 36 9 5 Try.underlying36 Try.underlying5 Try.underlying9 (c := c7) hbt8.2.1
  clear hbt7 hbt8 hp6 hcl6 hB7' hB8 hd7
  obtain rfl : A8 = ⟨d6.lives, 2, 6, 7, [0], 1⟩ := hA8
  have CL := Lib.hid (life_any ha8)
  have CA : Hid (Calls Try.prog 21 #[.pointer (some ⟨p8, 0, none⟩)] w8 fun e w' => ∃ A9 c9, e = .returned (.slice A9 1 c9) ∧ w'.ownsRow w8.heap.size 3 1 (.slice A9 1 c9) 1 [natv 0] ∧ Below w8.heap.size w8 w') := Lib.hid (all_any ha8 (by show 1 ≤ _; omega))
  have CR : Hid (∀ V, Below w8.heap.size w8 V → Calls Try.prog 19 #[.pointer (some ⟨p8, 0, none⟩)] V fun e w' => e = .returned (.int .i64 5) ∧ ∃ m, w' = V.drewN m) := Lib.hid (fun V hV => room_any (ha8.below hV) (by show 1 ≤ _; omega) (by show 6 ≤ _; omega))
  have CS : Hid (∀ V, Calls Try.prog 17 #[.int .i64 44] V fun e w' => e = .returned (.int .i64 1) ∧ V = w') := Lib.hid (fun V => size_any V 44 (by omega) (by omega))
  have CS2 : Hid (∀ V, Calls Try.prog 17 #[.int .i64 45] V fun e w' => e = .returned (.int .i64 2) ∧ V = w') := Lib.hid (fun V => size_any V 45 (by omega) (by omega))
  have CF : Hid (∀ V : World, Calls Try.prog 20 #[.int .i64 3, .slice (some ⟨V.heap.size, 0, none⟩) 2 2] (V.alloc (.cells #[.int .i64 44, .int .i64 45] 3)) fun e w' => e = .returned (.bool true) ∧ V.alloc (.cells #[.int .i64 44, .int .i64 45] 3) = w') := Lib.hid (fun V => fits_any (L := [44, 45]) 3 ⟨⟨by simp, ⟨rfl, fun _ => ⟨_, rfl, by simp, fun j u hu => by rw [add_zero_off, (Blk.new V 3 #[.int .i64 44, .int .i64 45]).cell j]; simpa using hu⟩⟩, Nat.le_refl _, by unfold maxLen; omega⟩, rfl, by decide⟩ (by omega) (by omega) (by omega))
  have HB8 := Lib.hid hB8'
  clear ha8 hp8 hB8' hlv6
  go_wp2_with fail
  refine CL.out.mono ?_
  rintro e w9 ⟨rfl, rfl⟩
  go_wp2_with fail
  refine CA.out.mono ?_
  rintro e w9 ⟨A9, c9, rfl, -, hB9⟩
  have HB9 := Lib.hid (HB8.out.trans (hB9.mono HB8.out.size))
  have CR0 := Lib.hid (CR.out w9 hB9)
  clear hB9 CR
  go_wp2_with fail
  refine CR0.out.mono ?_
  rintro e w10 ⟨rfl, m, rfl⟩
  go_wp2_with fail
  refine (CS.out _).mono ?_
  rintro e w11 ⟨rfl, rfl⟩
  go_wp2_with fail
  refine (CS2.out _).mono ?_
  rintro e w11 ⟨rfl, rfl⟩
  go_wp2_with fail
  refine (CF.out _).mono ?_
  rintro e w11 ⟨rfl, rfl⟩
  go_wp2_with fail
  go_ret
  exact ⟨rfl, (below_drewN HB9.out m).alloc HB9.out.size _⟩
end Go.Proofs.Ytlbikfamjogpnaa
end

/- A slice of noughts that is made. Conditions: none. -/
section
namespace Go.Proofs.Ytlbikfamjogpnaa
open Go.RowKit
/-- A row of noughts. -/
def zs (n : Nat) : List UInt8 := List.replicate n 0
def zsrow (n : Nat) : Array Value := ((zs n).map byt).toArray

theorem make_zs (n : Nat) (hn : n ≤ 140737488355328) (w : World) :
    (Instr.makeSlice 36 (.int .i64 (n : Int)) (.int .i64 (n : Int))).run Try.prog w = .ok (.slice (some ⟨w.heap.size, 0, none⟩) n n) (w.alloc (.cells (zsrow n) 5)) := by
  obtain ⟨i0, hi0, hz0, hz1, hz2⟩ := info_parts info_u8
  have hr := run_make (P := Try.prog) w 36 5 i0 (.int .u8 0) Try.underlying36 hi0 hz0 .i64 .i64 (n : Int) (n : Int) (by omega) (by omega) (by rw [hz2]; omega) (by omega)
  rw [hz1] at hr
  have e : madeCells (Value.int .u8 0).cells ((n : Int).toNat * 1) = zsrow n := by
    apply Array.toList_inj.1
    have := toList_madeCells_one (.int .u8 0) n
    simp only [Value.cells, Int.toNat_natCast, Nat.mul_one] at this ⊢
    rw [this]
    simp [zsrow, zs, byt]
  rw [e] at hr
  exact hr

end Go.Proofs.Ytlbikfamjogpnaa
end

/- FrameKnown answers true. Conditions: none. -/
section
namespace Go.Proofs.Ytlbikfamjogpnaa
open Go.RowKit
set_option linter.unusedVariables false
set_option linter.unusedSimpArgs false
theorem bts_zs (w : World) (n : Nat) (h : n ≤ 140737488355328) : Bts (w.alloc (.cells (zsrow n) 5)) (some ⟨w.heap.size, 0, none⟩) n n (zs n) := bts_blk (Blk.new w 5 (zsrow n)) (by simp [zs]) (by unfold maxLen; omega)
theorem below_zs {w w' : World} (h : Below w.heap.size w w') (n : Nat) : Below w.heap.size w (w'.alloc (.cells (zsrow n) 5)) := h.alloc h.size _
set_option maxRecDepth 100000 in
set_option maxHeartbeats 4000000 in
theorem frameKnown_all (w : World) : Calls Try.prog 4 #[] w fun e w' => e = .returned (.bool true) ∧ Below w.heap.size w w' := by
  have m1 := make_zs 1001 (by omega)
  have m2 := make_zs 200 (by omega)
  have m1 : ∀ V : World, (Instr.makeSlice 36 (.int .i64 1001) (.int .i64 1001)).run Try.prog V = .ok (.slice (some ⟨V.heap.size, 0, none⟩) 1001 1001) (V.alloc (.cells (zsrow 1001) 5)) := m1
  have m2 : ∀ V : World, (Instr.makeSlice 36 (.int .i64 200) (.int .i64 200)).run Try.prog V = .ok (.slice (some ⟨V.heap.size, 0, none⟩) 200 200) (V.alloc (.cells (zsrow 200) 5)) := m2
  go_enter Try.func4, Try.ntmps4
  go_wp2_with fail
  refine (awake5 w).mono ?_
  rintro e w1 ⟨rfl, hB1⟩
  go_wp2_with fail
  refine (new_ok 4 w1 (by omega) (by omega)).mono ?_
  rintro e w2 ⟨b, a, rfl, hd2, hb, ha, hb2⟩
  have hB2 : Below w.heap.size w w2 := hB1.trans (hb2.mono hB1.size)
  have HB := Lib.hid (Nat.le_trans hB1.size hb)
  have HAA := Lib.hid (Nat.le_trans hB1.size ha)
  have HZ2 := Lib.hid hB2.size
  clear hb ha hb2 hB1
  go_wp2_with fail
  refine (open_arg (Dk.new 4) 1 4 hd2 (by omega) (by omega) (by omega) (by right; right; right; decide)).mono ?_
  rintro e w2' ⟨rfl, rfl⟩
  go_wp2_with fail
  refine (open_arg (Dk.new 4) (-1) 2 hd2 (by omega) (by omega) (by omega) (by left; decide)).mono ?_
  rintro e w2' ⟨rfl, rfl⟩
  have P1 : Chain (Dk.new 4).S 0 2 0 [] := new_chain 4 0 2 0 (by omega)
  go_wp2_with fail
  refine (open_ok (fs := []) (Dk.new 4) 0 2 0 hd2 (by omega) P1 rfl rfl (by omega) (clean_end (new_clean 4 0 2))).mono ?_
  rintro e w3 ⟨p, A, rfl, ha3, hA, hp3, hb3⟩
  obtain rfl : A = ⟨1, 0, 2, 0, [], 0⟩ := hA
  have hd3 := hd2.below hb3
  have hB3 : Below w.heap.size w w3 := hB2.trans (hb3.mono hB2.size)
  have HP3 := Lib.hid hp3
  clear hB2 hb3 hd2 P1 hp3
  have C1 := Lib.hid (add_any (Dk.new 4) 1 (ha3.below ((Below.refl _ _).alloc (Nat.le_refl _) (.cells (zsrow 1001) 5))) (hd3.below ((Below.refl _ _).alloc (Nat.le_refl _) (.cells (zsrow 1001) 5))) (by decide) (by decide) (by decide) (bts_zs w3 1001 (by omega)) (by omega))
  have HB3 := Lib.hid (below_zs hB3 1001)
  clear ha3 hd3 hB3
  go_wp2_with fail
  refine C1.out.mono ?_
  intro e w4 hpost
  obtain ⟨rfl, ha4, hd4, hb4⟩ : _ ∧ _ ∧ _ ∧ _ := by
    unfold AddPost at hpost
    rw [if_pos (by simp [zs])] at hpost
    exact hpost
  have hB4 : Below w.heap.size w w4 := HB3.out.trans (hb4.mono HB3.out.size)
  clear hpost hb4 C1 HB3
  have C2 := Lib.hid (add_any (Dk.new 4) 1 (ha4.below ((Below.refl _ _).alloc (Nat.le_refl _) (.cells (zsrow 200) 5))) (hd4.below ((Below.refl _ _).alloc (Nat.le_refl _) (.cells (zsrow 200) 5))) (by decide) (by decide) (by decide) (bts_zs w4 200 (by omega)) (by omega))
  have HB4 := Lib.hid (below_zs hB4 200)
  clear ha4 hd4 hB4
  go_wp2_with fail
  refine C2.out.mono ?_
  intro e w5 hpost
  obtain ⟨rfl, ha5, hd5, hb5⟩ : _ ∧ _ ∧ _ ∧ _ := by
    unfold AddPost at hpost
    rw [if_neg (by simp [zs]), if_neg (by decide), if_pos (by rw [show (zs 200).length = 200 by simp [zs]]; decide)] at hpost
    exact hpost
  have hB5 : Below w.heap.size w w5 := HB4.out.trans (hb5.mono HB4.out.size)
  clear hpost hb5 C2 HB4
  have C3 := Lib.hid (get_any (Dk.new 4) 1 ha5 hd5 (by decide) (by simp) (by simp))
  have HA5 := Lib.hid ha5
  have HD5 := Lib.hid hd5
  have HB5 := Lib.hid hB5
  clear ha5 hd5 hB5
  go_wp2_with fail
  refine C3.out.mono ?_
  rintro e w6 ⟨hb6, hg⟩
  rw [if_pos (by decide)] at hg
  subst hg
  have hd6 := HD5.out.below hb6
  have ha6 := HA5.out.below hb6
  have hB6 : Below w.heap.size w w6 := HB5.out.trans (hb6.mono HB5.out.size)
  clear hb6 C3 HA5 HD5 HB5
  have C4 := Lib.hid (on_any (Dk.new 4) hd6)
  have HA6 := Lib.hid ha6
  have HD6 := Lib.hid hd6
  have HB6 := Lib.hid hB6
  clear ha6 hd6 hB6
  go_wp2_with fail
  refine C4.out.mono ?_
  rintro e w7 ⟨rfl, hd7, hk7⟩
  have ha7 : AreaAt w7 w2.heap.size p b ⟨1, 0, 2, 0, [], 0⟩ := HA6.out.disk HD6.out hk7
  have hB7 := DKept.low HB6.out (Nat.le_refl _) (by rintro i (rfl | rfl); exact HB.out; exact HAA.out) hk7
  have C5 := Lib.hid (add_any (Dk.new 4).on 1 ha7 hd7 (by decide) (by decide) (by decide) (bts_nil w7) (by omega))
  have HB7 := Lib.hid hB7
  clear C4 HA6 HD6 HB6 hd7 hk7 ha7 hB7
  go_wp2_with fail
  refine C5.out.mono ?_
  intro e w8 hpost
  obtain ⟨rfl, -, -, hb8⟩ : _ ∧ _ ∧ _ ∧ _ := by
    unfold AddPost at hpost
    rw [if_neg (by decide), if_pos (by rw [show (Dk.new 4).on.lives = 2 by kernel_rfl]; decide)] at hpost
    exact hpost
  have HB8 : Hid (Below w.heap.size w w8) := Lib.hid (HB7.out.trans (hb8.mono HB7.out.size))
  have CS1 : Hid (∀ V, Calls Try.prog 17 #[.int .i64 (-1)] V fun e w' => e = .returned (.int .i64 0) ∧ V = w') := Lib.hid (fun V => size_any V (-1) (by omega) (by omega))
  have CS2 : Hid (∀ V, Calls Try.prog 17 #[.int .i64 1001] V fun e w' => e = .returned (.int .i64 0) ∧ V = w') := Lib.hid (fun V => size_any V 1001 (by omega) (by omega))
  have CS3 : Hid (∀ V, Calls Try.prog 17 #[.int .i64 1000] V fun e w' => e = .returned (.int .i64 17) ∧ V = w') := Lib.hid (fun V => size_any V 1000 (by omega) (by omega))
  have CF1 : Hid (∀ V : World, Calls Try.prog 20 #[.int .i64 1000, .slice (some ⟨V.heap.size, 0, none⟩) 1 1] (V.alloc (.cells #[.int .i64 1001] 3)) fun e w' => e = .returned (.bool false) ∧ V.alloc (.cells #[.int .i64 1001] 3) = w') := Lib.hid (fun V => fits_any (L := [1001]) 1000 ⟨⟨by simp, ⟨rfl, fun _ => ⟨_, rfl, by simp, fun j u hu => by rw [add_zero_off, (Blk.new V 3 #[.int .i64 1001]).cell j]; simpa using hu⟩⟩, Nat.le_refl _, by unfold maxLen; omega⟩, rfl, by decide⟩ (by omega) (by omega) (by omega))
  have CF2 : Hid (∀ V : World, Calls Try.prog 20 #[.int .i64 0, .slice none 0 0] V fun e w' => e = .returned (.bool true) ∧ V = w') := Lib.hid (fun V => fits_any (L := []) 0 ⟨vals_nil V, rfl, by simp⟩ (by omega) (by omega) (by omega))
  clear hpost hb8 C5 HB7 m1 m2
  go_wp2_with fail
  refine (CS1.out _).mono ?_
  rintro e w9 ⟨rfl, rfl⟩
  go_wp2_with fail
  refine (CS2.out _).mono ?_
  rintro e w9 ⟨rfl, rfl⟩
  go_wp2_with fail
  refine (CS3.out _).mono ?_
  rintro e w9 ⟨rfl, rfl⟩
  go_wp2_with fail
  refine (CF1.out _).mono ?_
  rintro e w9 ⟨rfl, rfl⟩
  go_wp2_with fail
  refine (CF2.out _).mono ?_
  rintro e w9 ⟨rfl, rfl⟩
  go_wp2_with fail
  go_ret
  exact ⟨rfl, HB8.out.alloc HB8.out.size _⟩
end Go.Proofs.Ytlbikfamjogpnaa
end
