/- DiskPlays, whatever comes. Conditions: none. -/
import Derived.Test.YtifldkcfbggkeaaPlaysW
namespace Go.Proofs.Ytifldkcfbggkeaa
open Go.RowKit

section
variable {len cap : Nat} {A : Option Addr} {w : World}

set_option maxHeartbeats 400000 in
set_option maxRecDepth 100000 in
theorem plays_no (n : Int) (h : n < 1 ∨ 4096 < n) :
    Calls Try.prog 4 #[.int .i64 n, .slice A len cap] w fun e w' => e = .returned (.bool true) ∧ Below w.heap.size w w' := by
  by_cases h1 : n < 1
  · go_enter Try.func4, Try.ntmps4
    go_wp2_with fail
    refine (awake4 w).mono ?_
    rintro e w1 ⟨rfl, hB1⟩
    go_wp2_with fail
    refine (new_no n w1 h).mono ?_
    rintro e w2 ⟨rfl, rfl⟩
    clear h
    go_wp2
    go_ret
    exact ⟨rfl, hB1⟩
  · have h2 : 4096 < n := by omega
    go_enter Try.func4, Try.ntmps4
    go_wp2_with fail
    refine (awake4 w).mono ?_
    rintro e w1 ⟨rfl, hB1⟩
    go_wp2_with fail
    refine (new_no n w1 h).mono ?_
    rintro e w2 ⟨rfl, rfl⟩
    clear h
    go_wp2
    go_ret
    exact ⟨rfl, hB1⟩

set_option maxHeartbeats 400000 in
set_option maxRecDepth 100000 in
theorem plays_wide (n : Int) (h1 : 1 ≤ n) (h2 : n ≤ 4096) (hx : len ≤ maxLen) (h : 100 < len ∨ 64 < n) :
    Calls Try.prog 4 #[.int .i64 n, .slice A len cap] w fun e w' => e = .returned (.bool true) ∧ Below w.heap.size w w' := by
  unfold maxLen at hx
  by_cases h3 : 100 < len
  · clear h
    go_enter Try.func4, Try.ntmps4
    go_wp2_with fail
    refine (awake4 w).mono ?_
    rintro e w1 ⟨rfl, hB1⟩
    go_wp2_with fail
    refine (new_ok n w1 h1 h2).mono ?_
    rintro e w2 ⟨b, a, rfl, _, _, _, hbel2⟩
    have hB2 : Below w.heap.size w w2 := hB1.trans (hbel2.mono hB1.size)
    go_wp2
    go_ret
    exact ⟨rfl, hB2⟩
  · have h4 : 64 < n := by omega
    clear h
    go_enter Try.func4, Try.ntmps4
    go_wp2_with fail
    refine (awake4 w).mono ?_
    rintro e w1 ⟨rfl, hB1⟩
    go_wp2_with fail
    refine (new_ok n w1 h1 h2).mono ?_
    rintro e w2 ⟨b, a, rfl, _, _, _, hbel2⟩
    have hB2 : Below w.heap.size w w2 := hB1.trans (hbel2.mono hB1.size)
    go_wp2
    go_ret
    exact ⟨rfl, hB2⟩

theorem plays_any (n : Int) (L : List Ac) (hL : ActsAt w w.heap.size A len L) (hlc : len ≤ cap) (hcap : cap ≤ maxLen) :
    Calls Try.prog 4 #[.int .i64 n, .slice A len cap] w fun e w' => e = .returned (.bool true) ∧ Below w.heap.size w w' := by
  by_cases h1 : n < 1 ∨ 4096 < n
  · exact plays_no n h1
  by_cases h2 : 100 < len ∨ 64 < n
  · exact plays_wide n (by omega) (by omega) (by omega) h2
  · obtain ⟨N, rfl⟩ := Int.eq_ofNat_of_zero_le (show 0 ≤ n by omega)
    exact plays_main L hL (by omega) (by omega) (by omega) hlc hcap
end
end Go.Proofs.Ytifldkcfbggkeaa
