/- The walk of PackApart. Conditions: none. -/
import Derived.Test.YtifldkcfbggkeaaPackA
import Derived.Test.YtifldkcfbggkeaaKeepsM
import Derived.Deep.QuietTactic
import Derived.BigQuiet
import Derived.Lib.SlicesS
namespace Go.Proofs.Ytifldkcfbggkeaa
open Go.RowKit

theorem bts_cut {w : World} {g n c : Nat} {l : List UInt8} (h : Bts w (some ⟨g, 0, none⟩) n c l) {k : Nat} (hk : k ≤ n) : Reads w w.heap.size 1 (some ⟨g, 0, none⟩) k ((l.take k).map byt) := by
  have := h.2.1.take_ hk
  rwa [← List.map_take] at this

set_option maxHeartbeats 2000000 in
set_option maxRecDepth 100000 in
theorem apart_main (w : World) (a b : Nat) (ha : a < 18446744073709551616) (hb : b < 18446744073709551616) :
    Calls Try.prog 12 #[.int .u64 (a : Int), .int .u64 (b : Int)] w fun e w' => e = .returned (.bool true) ∧ Below w.heap.size w w' := by
  go_enter Try.func12, Try.ntmps12
  go_wp2_with fail
  refine (awake3 w).mono ?_
  rintro e w1 ⟨rfl, hB1⟩
  have C1 := packU_any a (bts_nil w1) (by omega) ha
  have C2 := fun w => packU_any b (bts_nil w) (by omega) hb
  have px := putU_pos a
  have py := putU_pos b
  have tx := putU_ten ha
  have ty := putU_ten hb
  have KA := Lib.hid (fun n => putU_apart ha hb n)
  have hmono := Lib.hid (fun (h : a ≤ b) => putU_mono 9 a b h (by omega))
  rw [List.nil_append] at C1
  simp only [List.nil_append] at C2
  have HEQ := Lib.hid (fun (h : a = b) => congrArg putU h)
  generalize putU a = X at *
  generalize putU b = Y at *
  go_wp2_with fail
  refine C1.mono ?_
  rintro e w2 ⟨g1, c1, rfl, hown1, hb1⟩
  clear C1
  go_wp2_with fail
  refine (C2 w2).mono ?_
  rintro e w3 ⟨g2, c2, rfl, hown2, hb2⟩
  clear C2
  have B1 : Bts w3 (some ⟨g1, 0, none⟩) X.length c1 X := (Put.bts hown1).below hb2
  have B2 : Bts w3 (some ⟨g2, 0, none⟩) Y.length c2 Y := Put.bts hown2
  have hB3 : Below w.heap.size w w3 := (hB1.trans (hb1.mono hB1.size)).trans (hb2.mono (Nat.le_trans hB1.size hb1.size))
  have hc1 := B1.2.2.1
  have hc2 := B2.2.2.1
  have hm1 := B1.2.2.2.1
  have hm2 := B2.2.2.2.1
  clear hown1 hown2 hb1 hb2 hB1
  by_cases hab : a = b
  · have e0 : ((a : Int) == (b : Int)) = true := beq_iff_eq.2 (by omega)
    obtain rfl : X = Y := HEQ.out hab
    have cv1 := run_string_of w3 27 9 5 Try.underlying27 Try.underlying5 Try.underlying9 (c := c1) B1.2.1
    have cv2 := run_string_of w3 27 9 5 Try.underlying27 Try.underlying5 Try.underlying9 (c := c2) B2.2.1
    clear B1 B2
    go_wp2
    go_ret
    exact ⟨rfl, hB3⟩
  · have e0 : ((a : Int) == (b : Int)) = false := beq_eq_false_iff_ne.2 (by omega)
    have D1 := fun k hk => bts_cut B1 (k := k) hk
    have D2 := fun k hk => bts_cut B2 (k := k) hk
    clear B1 B2
    have hne1 : (c1 = 0) = False := eq_false (by omega)
    have hne2 : (c2 = 0) = False := eq_false (by omega)
    have cut : ∀ k, k ≤ X.length → k ≤ Y.length → (k = X.length ∨ k = Y.length) → ∃ sx sy : ByteArray,
        (∀ m, (convert 27 9 (.slice (some ⟨g1, 0, none⟩) k c1)).run Try.prog (w3.drewN m) = .ok (.string sx) (w3.drewN m)) ∧
        (∀ m, (convert 27 9 (.slice (some ⟨g2, 0, none⟩) k c2)).run Try.prog (w3.drewN m) = .ok (.string sy) (w3.drewN m)) ∧ (sx.toList == sy.toList) = false := by
      intro k h1 h2 h3
      refine ⟨⟨(X.take k).toArray⟩, ⟨(Y.take k).toArray⟩, fun m => run_string_of (w3.drewN m) 27 9 5 Try.underlying27 Try.underlying5 Try.underlying9 (c := c1) ((D1 k h1).drewN m), fun m => run_string_of (w3.drewN m) 27 9 5 Try.underlying27 Try.underlying5 Try.underlying9 (c := c2) ((D2 k h2).drewN m), ?_⟩
      rw [Lib.bytes_beq_false_iff]
      simp only [ne_eq, ByteArray.mk.injEq]
      exact fun e => hab (KA.out k h1 h2 h3 (by simpa using congrArg Array.toList e))
    by_cases hl : Y.length < X.length
    · obtain ⟨sx, sy, cv1, cv2, ne⟩ := cut Y.length (by omega) (Nat.le_refl _) (.inr rfl)
      have i0 : (0 : Int) ≤ (Y.length : Int) := by omega
      have i1 : (Y.length : Int) ≤ (c1 : Int) := by omega
      have i2 : (Y.length : Int) ≤ (c2 : Int) := by omega
      have hgt : (b : Int) < (a : Int) := (by
        rcases Nat.lt_or_ge b a with h | h
        · omega
        · have := hmono.out h; omega)
      clear KA hmono HEQ D1 D2 cut
      go_wp2_with fail
      go_quiet (fail)
      go_wp2
      go_ret
      exact ⟨rfl, below_drewN hB3 _⟩
    · obtain ⟨sx, sy, cv1, cv2, ne⟩ := cut X.length (Nat.le_refl _) (by omega) (.inl rfl)
      clear KA hmono HEQ D1 D2 cut
      have i0 : (0 : Int) ≤ (X.length : Int) := by omega
      have i1 : (X.length : Int) ≤ (c1 : Int) := by omega
      have i2 : (X.length : Int) ≤ (c2 : Int) := by omega
      by_cases h : (b : Int) < (a : Int)
      · have hgt : decide ((b : Int) < (a : Int)) = true := decide_eq_true h
        go_wp2_with fail
        go_quiet (fail)
        go_wp2
        go_ret
        exact ⟨rfl, below_drewN hB3 _⟩
      · have hgt : decide ((b : Int) < (a : Int)) = false := decide_eq_false h
        have hgn : decide (b < a) = false := decide_eq_false (by omega)
        have hln : decide (X.length ≤ Y.length) = true := decide_eq_true (by omega)
        have hle : decide ((X.length : Int) ≤ (Y.length : Int)) = true := decide_eq_true (by omega)
        go_wp2_with fail
        go_quiet (fail)
        go_wp2
        go_ret
        exact ⟨rfl, below_drewN hB3 _⟩
theorem apart_all (w : World) (a b : Int) (ha : (Lit.int .u64 a).wf = true) (hb : (Lit.int .u64 b).wf = true) :
    Calls Try.prog 12 #[.int .u64 a, .int .u64 b] w fun e w' => e = .returned (.bool true) ∧ Below w.heap.size w w' := by
  simp only [Lit.wf, Bool.and_eq_true, decide_eq_true_eq] at ha hb
  have e1 : IntKind.u64.min = 0 := by decide
  have e2 : IntKind.u64.max = 18446744073709551615 := by decide
  obtain ⟨x, rfl⟩ := Int.eq_ofNat_of_zero_le (show 0 ≤ a by omega)
  obtain ⟨y, rfl⟩ := Int.eq_ofNat_of_zero_le (show 0 ≤ b by omega)
  exact apart_main w x y (by omega) (by omega)
end Go.Proofs.Ytifldkcfbggkeaa
