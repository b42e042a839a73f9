/- The walks of PackKnown, PackSums, PackApart. Conditions: none. -/
import Derived.Test.YtifldkcfbggkeaaPackA
import Derived.Test.YtifldkcfbggkeaaKeepsW
import Derived.Deep.QuietTactic
import Derived.BigQuiet
namespace Go.Proofs.Ytifldkcfbggkeaa
open Go.RowKit

theorem n1 : rdNum [128, 0, 1] false = (0, [], true) := by kernel_rfl
theorem n2 : rdInt [] true = (0, [], true) := by kernel_rfl
theorem n3 : rdStr [] true = ([], [], true) := by kernel_rfl
theorem n4 : sumOf [] = 0 := by kernel_rfl

set_option maxHeartbeats 1000000 in
theorem known3 (w : World) : Calls Try.prog 7 #[] w fun e w' => e = .returned (.bool true) ∧ Below w.heap.size w w' := by
  go_enter Try.func7, Try.ntmps7
  go_wp2_with fail
  refine (awake3 w).mono ?_
  rintro e w1 ⟨rfl, hB1⟩
  go_wp2_with fail
  refine (read_new (bts_lit w1 [128, 0, 1] 3 rfl (by unfold maxLen; omega) (0, 0)) (by omega)).mono ?_
  rintro e w2 ⟨p, rfl, hr2, hp, hb2⟩
  have hB2 : Below w.heap.size w w2 := (hB1.alloc hB1.size _).trans (hb2.mono (by have := hB1.size; simp; omega))
  have hpw : w.heap.size ≤ p := by have := hB1.size; simp at hp; omega
  clear hB1 hb2 hp
  have C := readU_any hr2
  rw [n1] at C
  dsimp only at C
  go_wp2_with fail
  refine C.mono ?_
  rintro e w3 ⟨rfl, hr3, hk⟩
  have hB3 : Below w.heap.size w w3 := low hB2 (Nat.le_refl _) hpw hk
  clear C hk hr2 hB2
  have C := readI_any hr3
  rw [n2] at C
  dsimp only at C
  go_wp2_with fail
  refine C.mono ?_
  rintro e w4 ⟨rfl, hr4, hk⟩
  have hB4 : Below w.heap.size w w4 := low hB3 (Nat.le_refl _) hpw hk
  clear C hk hr3 hB3
  go_wp2_with fail
  refine (bad_any hr4).mono ?_
  rintro e w4' ⟨rfl, rfl⟩
  go_wp2_with fail
  refine (left_any hr4).mono ?_
  rintro e w4' ⟨rfl, rfl⟩
  have C := readS_any hr4
  rw [n3] at C
  dsimp only at C
  go_wp2_with fail
  refine C.mono ?_
  rintro e w5 ⟨rfl, hr5, hk⟩
  have hB5 : Below w.heap.size w w5 := low hB4 (Nat.le_refl _) hpw hk
  clear C hk hr4 hB4
  go_wp2_with fail
  have C := sum_any (bts_nil w5)
  rw [n4] at C
  refine C.mono ?_
  rintro e w6 ⟨rfl, rfl⟩
  go_wp2
  go_ret
  exact ⟨rfl, hB5⟩

section
variable {w : World} {A : Option Addr} {n c : Nat}

set_option maxHeartbeats 1000000 in
theorem sums_main (l : List UInt8) (h : Bts w A n c l) (k : Nat) (y : UInt8) (hn : n ≤ 400) (hk : k < n) (hy : y ≠ 0) :
    Calls Try.prog 11 #[.slice A n c, .int .i64 (k : Int), .int .u8 (y.toNat : Int)] w fun e w' => e = .returned (.bool true) ∧ Below w.heap.size w w' := by
  obtain ⟨i0, hi0, hz0, hz1, hz2⟩ := info_parts info_u8
  have HB := Lib.hid h
  have hln := h.2.2.2.2
  have hkl : k < l.length := by omega
  have hl : l = l.take k ++ l[k] :: l.drop (k + 1) := by rw [← List.drop_eq_getElem_cons hkl, List.take_append_drop]
  have hset : ∀ x, l.set k x = l.take k ++ x :: l.drop (k + 1) := fun x => List.set_eq_take_append_cons_drop.trans (by rw [if_pos hkl])
  have hget : l[k]? = some l[k] := List.getElem?_eq_getElem hkl
  generalize l[k] = x at hl hget
  have hne : sumOf l ≠ sumOf (l.set k (x ^^^ y)) := by
    have := sum_changed (l.take k) (l.drop (k + 1)) x (x ^^^ y) (by
      intro e
      have := congrArg (x ^^^ ·) e
      simp only [← UInt8.xor_assoc, UInt8.xor_self, UInt8.zero_xor] at this
      exact hy this.symm)
    rw [hset, show sumOf l = sumOf (l.take k ++ x :: l.drop (k + 1)) from congrArg sumOf hl]
    exact this
  have hdec : ((sumOf l : Int) != (sumOf (l.set k (x ^^^ y)) : Int)) = true := by rw [bne_iff_ne]; omega
  have hx256 := x.toNat_lt
  have hy256 := y.toNat_lt
  have hxor : bits .xor .u8 (x.toNat : Int) (y.toNat : Int) = ((x ^^^ y).toNat : Int) := by
    have := u8_xor_nat x.toNat y.toNat hx256 hy256
    rw [this, UInt8.toNat_xor]
  have hy0 : ((y.toNat : Int) == 0) = false := by
    rw [beq_eq_false_iff_ne]
    intro e
    exact hy (UInt8.toNat_inj.1 (by show y.toNat = 0; omega))
  have HG := Lib.hid hget
  have HLN := Lib.hid hln
  clear h hl hset hne hget hln
  go_enter Try.func11, Try.ntmps11
  go_wp2_with fail
  refine (awake3 w).mono ?_
  rintro e w1 ⟨rfl, hB1⟩
  have hb1 : Bts w1 A n c l := HB.out.below hB1
  have HB1 := Lib.hid hb1
  clear hb1
  go_wp2_with (first
    | (at_builtin
       go_must (refine wpList_append_any _ rfl (.tmp 27) (.tmp 28) _ rfl w1.heap.size 5 i0 _ 1 1 Try.underlying27 hi0 hz0 hz1 hz2 rfl (by omega) (.slice (some ⟨w1.heap.size, 0, none⟩) 0 0) 0 [] rfl (World.ownsRow_lit w1 #[] 0 (Nat.le_refl _) (by unfold maxLen; omega) rfl) w1.heap.size A n c (l.map byt) rfl (HB1.out.2.1.alloc (Nat.le_refl _) _) (byt_one _) (by unfold maxLen; omega) (by omega) (by simp) ?_)
       intro v1 w2 hown2 hg2 hat2
       have hown2' : w2.ownsRow w1.heap.size 5 1 v1 n (l.map byt) := by simpa using hown2
       obtain ⟨g, c2, rfl, hgw, hgl⟩ := hown2'.form (by omega)
       have hb2 : Below w1.heap.size w1 w2 := ((Below.refl _ _).alloc (Nat.le_refl _) _).grown hg2 (by simp) (fun k hk => by simp [Value.ownBlock] at hk; omega)
       have ck : w2.cell? ⟨g, k, none⟩ = some (.int .u8 (x.toNat : Int)) := by rw [hown2'.cellAt k (by omega), List.getElem?_map, HG.out]; rfl
       have fk := hown2'.frozenAt k
       have HO := Lib.hid hown2'
       clear hown2 hg2 hat2 hown2'))
  have hset2 : Bts (w2.setCell ⟨g, k, none⟩ (.int .u8 ((x ^^^ y).toNat : Int))) (some ⟨g, 0, none⟩) n c2 (l.set k (x ^^^ y)) := by
    have := HO.out.stored k (.int .u8 ((x ^^^ y).toNat : Int))
    refine own_bts (base := w1.heap.size) ?_
    have e : (l.map byt).set k (.int .u8 ((x ^^^ y).toNat : Int)) = (l.set k (x ^^^ y)).map byt := by rw [List.map_set]; rfl
    rw [e] at this
    exact this.1
  have hb3 : Below w1.heap.size w1 (w2.setCell ⟨g, k, none⟩ (.int .u8 ((x ^^^ y).toNat : Int))) := hb2.setCell hgw _
  refine (sum_any (HB1.out.below hb3)).mono ?_
  rintro e w4 ⟨rfl, rfl⟩
  go_wp2_with fail
  refine (sum_any hset2).mono ?_
  rintro e w4 ⟨rfl, rfl⟩
  clear hset2
  go_wp2
  go_ret
  exact ⟨rfl, hB1.trans (hb3.mono hB1.size)⟩

theorem sums_out (k y : Int) (hn : n ≤ maxLen) (h0 : 0 ≤ y) (h : 400 < n ∨ k < 0 ∨ (n : Int) ≤ k ∨ y = 0) :
    Calls Try.prog 11 #[.slice A n c, .int .i64 k, .int .u8 y] w fun e w' => e = .returned (.bool true) ∧ Below w.heap.size w w' := by
  unfold maxLen at hn
  by_cases h1 : 400 < n
  · clear h
    go_enter Try.func11, Try.ntmps11
    go_wp2_with fail
    refine (awake3 w).mono ?_
    rintro e w1 ⟨rfl, hB1⟩
    go_wp2
    go_ret
    exact ⟨rfl, hB1⟩
  by_cases h2 : k < 0
  · clear h
    go_enter Try.func11, Try.ntmps11
    go_wp2_with fail
    refine (awake3 w).mono ?_
    rintro e w1 ⟨rfl, hB1⟩
    go_wp2
    go_ret
    exact ⟨rfl, hB1⟩
  by_cases h3 : (n : Int) ≤ k
  · clear h
    go_enter Try.func11, Try.ntmps11
    go_wp2_with fail
    refine (awake3 w).mono ?_
    rintro e w1 ⟨rfl, hB1⟩
    go_wp2
    go_ret
    exact ⟨rfl, hB1⟩
  · have h4 : (y == 0) = true := beq_iff_eq.2 (by omega)
    clear h
    go_enter Try.func11, Try.ntmps11
    go_wp2_with fail
    refine (awake3 w).mono ?_
    rintro e w1 ⟨rfl, hB1⟩
    go_wp2
    go_ret
    exact ⟨rfl, hB1⟩

theorem sums_all (l : List UInt8) (h : Bts w A n c l) (k y : Int) (hy : (Lit.int .u8 y).wf = true) :
    Calls Try.prog 11 #[.slice A n c, .int .i64 k, .int .u8 y] w fun e w' => e = .returned (.bool true) ∧ Below w.heap.size w w' := by
  simp only [Lit.wf, Bool.and_eq_true, decide_eq_true_eq] at hy
  have e1 : IntKind.u8.min = 0 := by decide
  have e2 : IntKind.u8.max = 255 := by decide
  have hm := h.2.2.1
  have hm2 := h.2.2.2.1
  by_cases h1 : 400 < n ∨ k < 0 ∨ (n : Int) ≤ k ∨ y = 0
  · exact sums_out k y (by omega) (by omega) h1
  · obtain ⟨K, rfl⟩ := Int.eq_ofNat_of_zero_le (show 0 ≤ k by omega)
    have ey : y = ((UInt8.ofNat y.toNat).toNat : Int) := by simp; omega
    rw [ey]
    refine sums_main l h K _ (by omega) (by omega) ?_
    intro e
    have := congrArg UInt8.toNat e
    simp at this
    omega
end
end Go.Proofs.Ytifldkcfbggkeaa
