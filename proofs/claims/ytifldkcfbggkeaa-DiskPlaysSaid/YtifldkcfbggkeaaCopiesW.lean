/- The walk of DiskCopies. Conditions: none. -/
import Derived.Test.YtifldkcfbggkeaaActs
namespace Go.Proofs.Ytifldkcfbggkeaa
open Go.RowKit

theorem write_len (d : Dk) (k : Int) (l : List UInt8) : (d.write k l).1.S.length = d.S.length := by
  unfold Dk.write
  split
  · split
    · split
      · split <;> simp [Dk.put, Dk.cutOff]
      · simp [Dk.put, Dk.less, Dk.counted]
    · simp [Dk.put, Dk.counted]
  · rfl
theorem act_len (d : Dk) (x : Ac) : (d.act x).S.length = d.S.length := by
  unfold Dk.act
  split
  · exact write_len _ _ _
  · split
    · rfl
    · split <;> rfl
theorem acts_len (L : List Ac) : ∀ d : Dk, (d.acts L).S.length = d.S.length := by
  induction L with
  | nil => intro d; rfl
  | cons x r ih => intro d; exact (ih (d.act x)).trans (act_len d x)

section
variable {m1 c1 m2 c2 : Nat} {A1 A2 : Option Addr} {w : World}

set_option maxHeartbeats 2000000 in
set_option maxRecDepth 100000 in
theorem copies_main (L M : List Ac) (hL : ActsAt w w.heap.size A1 m1 L) (hM : ActsAt w w.heap.size A2 m2 M) (h1 : m1 ≤ 40) (h2 : m2 ≤ 40) (hc1 : m1 ≤ c1) (hc2 : m2 ≤ c2) (hx1 : c1 ≤ maxLen) (hx2 : c2 ≤ maxLen) :
    Calls Try.prog 6 #[.slice A1 m1 c1, .slice A2 m2 c2] w fun e w' => e = .returned (.bool true) ∧ Below w.heap.size w w' := by
  have HL := Lib.hid hL
  have HM := Lib.hid hM
  clear hL hM
  go_enter Try.func6, Try.ntmps6
  go_wp2_with fail
  refine (awake4 w).mono ?_
  rintro e w1 ⟨rfl, hB1⟩
  go_wp2_with fail
  refine (new_ok 6 w1 (by omega) (by omega)).mono ?_
  rintro e w2 ⟨b, a, rfl, hd2, hb, ha, hbel2⟩
  have hB2 : Below w.heap.size w w2 := hB1.trans (hbel2.mono hB1.size)
  have hsz := hB1.size
  have hlen0 : (Dk.new (6 : Int).toNat).S.length = 6 := rfl
  generalize Dk.new (6 : Int).toNat = d0 at hd2 hlen0
  have HLEN := Lib.hid hlen0
  clear hB1 hbel2 hlen0
  go_wp2_with fail
  refine (acts_any d0 L hd2 (HL.out.below hB2) (by omega) (by omega) hB2.size h1 hc1 hx1).mono ?_
  rintro e w3 ⟨rfl, hd3, hk3⟩
  have hB3 : Below w.heap.size w w3 := Kept.low hB2 (Nat.le_refl _) (by rintro i (rfl | rfl) <;> omega) hk3
  obtain ⟨d1, hd1⟩ : ∃ d1, d1 = d0.acts L := ⟨_, rfl⟩
  rw [← hd1] at hd3
  have HLEN1 : Hid (d1.S.length = 6) := by rw [hd1]; exact (acts_len L d0).trans HLEN.out
  clear hk3 hd2 hB2 hd1
  go_wp2_with fail
  refine (copy_any d1 hd3).mono ?_
  rintro e w4 ⟨bc, ac, rfl, hc4, hbc, hac, hbel4⟩
  have hd4 := hd3.below hbel4
  have hB4 : Below w.heap.size w w4 := hB3.trans (hbel4.mono hB3.size)
  have hsz3 := hB3.size
  have hb3 := hd3.ltb
  have ha3 := hd3.lta
  clear hd3 hB3 hbel4
  go_wp2_with fail
  refine (copy_any d1 hd4).mono ?_
  rintro e w5 ⟨bb, ab, rfl, hb5, hbb, hab, hbel5⟩
  have hd5 := hd4.below hbel5
  have hc5 := hc4.below hbel5
  have hB5 : Below w.heap.size w w5 := hB4.trans (hbel5.mono hB4.size)
  have hb4 := hd4.ltb
  have ha4 := hd4.lta
  have hb4' := hc4.ltb
  have ha4' := hc4.lta
  clear hd4 hc4 hB4 hbel5
  go_wp2_with fail
  refine (acts_any d1 M hc5 (HM.out.below hB5) (by omega) (by omega) hB5.size h2 hc2 hx2).mono ?_
  rintro e w6 ⟨rfl, hc6, hk6⟩
  have hB6 : Below w.heap.size w w6 := Kept.low hB5 (Nat.le_refl _) (by rintro i (rfl | rfl) <;> omega) hk6
  have hd6 : DiskAt w6 b a d1 := hd5.other hc5 hk6 (by omega) (by omega)
  have hb6 : DiskAt w6 bb ab d1 := hb5.other hc5 hk6 (by omega) (by omega)
  obtain ⟨d2, hd2⟩ : ∃ d2, d2 = d1.acts M := ⟨_, rfl⟩
  rw [← hd2] at hc6
  have HD2 := Lib.hid hd2
  have HLEN2 : Hid (d2.S.length = 6) := by rw [hd2]; exact (acts_len M d1).trans HLEN1.out
  clear hk6 hc5 hd5 hb5 hB5 hd2
  go_wp2_with fail
  refine (power_any d1 hd6).mono ?_
  rintro e w6' ⟨rfl, rfl⟩
  go_wp2_with fail
  refine (power_any d1 hb6).mono ?_
  rintro e w6' ⟨rfl, rfl⟩
  go_wp2_with fail
  refine (writes_any d1 hd6).mono ?_
  rintro e w6' ⟨rfl, rfl⟩
  go_wp2_with fail
  refine (writes_any d1 hb6).mono ?_
  rintro e w6' ⟨rfl, rfl⟩
  go_wp2_with fail
  refine (lives_any d1 hd6).mono ?_
  rintro e w6' ⟨rfl, rfl⟩
  go_wp2_with fail
  refine (lives_any d1 hb6).mono ?_
  rintro e w6' ⟨rfl, rfl⟩
  go_wp2_with fail
  refine (acts_any d1 M hd6 (HM.out.below hB6) (by omega) (by omega) hB6.size h2 hc2 hx2).mono ?_
  rintro e w7 ⟨rfl, hd7, hk7⟩
  have hB7 : Below w.heap.size w w7 := Kept.low hB6 (Nat.le_refl _) (by rintro i (rfl | rfl) <;> omega) hk7
  have hc7 : DiskAt w7 bc ac d2 := hc6.other hd6 hk7 (by omega) (by omega)
  rw [← HD2.out] at hd7
  clear hk7 hd6 hb6 hc6 hB6
  go_wp2_with fail
  refine (power_any d2 hd7).mono ?_
  rintro e w7' ⟨rfl, rfl⟩
  go_wp2_with fail
  refine (power_any d2 hc7).mono ?_
  rintro e w7' ⟨rfl, rfl⟩
  go_wp2_with fail
  refine (writes_any d2 hd7).mono ?_
  rintro e w7' ⟨rfl, rfl⟩
  go_wp2_with fail
  refine (writes_any d2 hc7).mono ?_
  rintro e w7' ⟨rfl, rfl⟩
  go_wp2_with fail
  refine (lives_any d2 hd7).mono ?_
  rintro e w7' ⟨rfl, rfl⟩
  go_wp2_with fail
  refine (lives_any d2 hc7).mono ?_
  rintro e w7' ⟨rfl, rfl⟩
  go_wp2_with fail
  go_loopg [9] 6 (fun k i wr => ∃ j : Nat, j + k = 6 ∧ i = .int .i64 (j : Int) ∧ DiskAt wr b a d2 ∧ DiskAt wr bc ac d2 ∧ Below w.heap.size w wr)
  case atStart => exact ⟨0, rfl, rfl, hd7, hc7, hB7⟩
  case round =>
    obtain ⟨j, hj, rfl, hd, hc, hB⟩ := hrel
    by_cases hlt : j < 6
    · have HJ := Lib.hid hj
      clear hj
      have hjl : j < d2.S.length := by have := HLEN2.out; omega
      rcases Bool.eq_false_or_eq_true d2.off with hoff | hoff
      ·
        have hm : d2.may j 0 = 4 := by
          unfold Dk.may
          rw [if_neg (by omega), if_pos hoff]
        have C1 := read_no d2 j hd (by rw [hm]; omega)
        have C2 := read_no d2 j hc (by rw [hm]; omega)
        rw [hm] at C1 C2
        have H1 := Lib.hid C1
        have H2 := Lib.hid C2
        have cv := run_convert_bytes_nil (P := Try.prog) wr 27 5 Try.underlying27 Try.underlying5 0 0 9 Try.underlying9
        clear C1 C2 hm hoff hjl
        go_wp2_with fail
        refine H1.out.mono ?_
        rintro e wr' ⟨rfl, rfl⟩
        go_wp2_with fail
        refine H2.out.mono ?_
        rintro e wr' ⟨rfl, rfl⟩
        go_wp2
        go_roundg (5 - j)
        case measure => have := HJ.out; omega
        case rel => exact ⟨j + 1, by have := HJ.out; omega, by go_num, hd, hc, hB⟩
      ·
        have HS : Hid (d2.S[j]? = some d2.S[j]) := List.getElem?_eq_getElem hjl
        have HOFF := Lib.hid hoff
        generalize d2.S[j] = S at HS
        clear hoff hjl
        go_wp2_with fail
        refine (read_ok d2 j S hd HS.out HOFF.out).mono ?_
        rintro e w8 ⟨g, c, rfl, hown, hbel8⟩
        have hr8 := Reads.of_own hown
        clear hown
        go_wp2_with fail
        refine (read_ok d2 j S (hc.below hbel8) HS.out HOFF.out).mono ?_
        rintro e w9 ⟨g', c', rfl, hown, hbel9⟩
        have cv1 := run_string_of w9 27 9 5 Try.underlying27 Try.underlying5 Try.underlying9 (c := c) (hr8.below hbel9)
        have cv2 := run_string_of w9 27 9 5 Try.underlying27 Try.underlying5 Try.underlying9 (c := c') (Reads.of_own hown)
        have hB9 : Below wr.heap.size wr w9 := hbel8.trans (hbel9.mono hbel8.size)
        clear hown hr8 hbel8 hbel9
        go_wp2
        go_roundg (5 - j)
        case measure => have := HJ.out; omega
        case rel => exact ⟨j + 1, by have := HJ.out; omega, by go_num, hd.below hB9, hc.below hB9, hB.trans (hB9.mono hB.size)⟩
    · obtain rfl : j = 6 := by omega
      clear hj
      go_wp2
      go_ret
      exact ⟨rfl, hB⟩

theorem copies_out (h : 40 < m1 ∨ 40 < m2) (hx1 : m1 ≤ maxLen) (hx2 : m2 ≤ maxLen) :
    Calls Try.prog 6 #[.slice A1 m1 c1, .slice A2 m2 c2] w fun e w' => e = .returned (.bool true) ∧ Below w.heap.size w w' := by
  unfold maxLen at hx1 hx2
  by_cases h1 : 40 < m1
  · clear h
    go_enter Try.func6, Try.ntmps6
    go_wp2_with fail
    refine (awake4 w).mono ?_
    rintro e w1 ⟨rfl, hB1⟩
    go_wp2
    go_ret
    exact ⟨rfl, hB1⟩
  · have h2 : 40 < m2 := by omega
    clear h
    go_enter Try.func6, Try.ntmps6
    go_wp2_with fail
    refine (awake4 w).mono ?_
    rintro e w1 ⟨rfl, hB1⟩
    go_wp2
    go_ret
    exact ⟨rfl, hB1⟩

/-- DiskCopies, whatever comes. -/
theorem copies_any (L M : List Ac) (hL : ActsAt w w.heap.size A1 m1 L) (hM : ActsAt w w.heap.size A2 m2 M) (hc1 : m1 ≤ c1) (hc2 : m2 ≤ c2) (hx1 : c1 ≤ maxLen) (hx2 : c2 ≤ maxLen) :
    Calls Try.prog 6 #[.slice A1 m1 c1, .slice A2 m2 c2] w fun e w' => e = .returned (.bool true) ∧ Below w.heap.size w w' := by
  by_cases h : 40 < m1 ∨ 40 < m2
  · exact copies_out h (by omega) (by omega)
  · exact copies_main L M hL hM (by omega) (by omega) hc1 hc2 hx1 hx2
end
end Go.Proofs.Ytifldkcfbggkeaa
