/- The sum of bytes, pack's and the reference's. Conditions: the slice can be read. -/
import Derived.Test.YtifldkcfbggkeaaPackR
namespace Go.Proofs.Ytifldkcfbggkeaa
open Go.RowKit

theorem u32_low (t : Nat) (h : t < 4294967296) : bits .and .u32 (t : Int) 1 = (t : Int) % 2 := by
  have := u32_and_nat t 1 h (by omega)
  rw [nat_mask1] at this
  simpa using this
theorem u32_pol (t : Nat) (h : t < 4294967296) : bits .xor .u32 ((t : Int) / 2) 3988292384 = ((t / 2 ^^^ crcP : Nat) : Int) := by
  have := u32_xor_nat (t / 2) 3988292384 (by omega) (by omega)
  simpa [crcP] using this
theorem u32_byte (t x : Nat) (h : t < 4294967296) (hx : x < 256) : bits .xor .u32 (t : Int) (x : Int) = ((t ^^^ x : Nat) : Int) := u32_xor_nat t x h (by omega)

theorem u32_not (s : Nat) (h : s < 4294967296) : bits .xor .u32 IntKind.u32.max (s : Int) = ((4294967295 - s : Nat) : Int) := by
  have e : IntKind.u32.max = ((4294967295 : Nat) : Int) := by decide
  rw [e, u32_xor_nat _ s (by omega) h, Nat.xor_comm]
  have := xor_ones 32 s h
  rw [show (2 : Nat) ^ 32 - 1 = 4294967295 from rfl] at this
  rw [this]
  omega

section
variable {w : World} {l : List UInt8} {A : Option Addr} {n c : Nat}

set_option maxHeartbeats 2000000 in
set_option maxRecDepth 100000 in
theorem sum_any (h : Bts w A n c l) :
    Calls Try.prog 35 #[.slice A n c] w fun e w' => e = .returned (.int .u32 (sumOf l : Int)) ∧ w = w' := by
  obtain ⟨h0, hrd, hnc, hcm, hln⟩ := h
  have HL := Lib.hid hln
  clear hln
  unfold maxLen at hcm
  go_enter Try.func35, Try.ntmps35
  go_wp2_with fail
  go_loopg [3, 8] n (fun k sv iv wr => ∃ (j s : Nat), j + k = n ∧ iv = .int .i64 (j : Int) ∧ sv = .int .u32 (s : Int) ∧ s < 4294967296 ∧ Hid (crcAll 4294967295 (l.take j) = s) ∧ w = wr)
  case atStart => exact ⟨0, 4294967295, by omega, rfl, rfl, by omega, rfl, rfl⟩
  case round =>
    obtain ⟨j, s, hj, rfl, rfl, hs, HS, rfl⟩ := hrel
    have HJ := Lib.hid hj
    clear hj
    by_cases hlt : j < n
    · obtain ⟨ad, u, rfl, _, hx, hcell⟩ := hrd.at_ hlt
      have hjl : j < l.length := by rw [HL.out]; exact hlt
      have hxb : u = byt l[j] := by simpa [hjl] using hx.symm
      subst hxb
      have hnext : crcAll 4294967295 (l.take (j + 1)) = crcByte (crcAll 4294967295 (l.take j)) l[j] := by
        rw [List.take_succ_eq_append_getElem hjl, crcAll_append]; rfl
      generalize l[j] = x at *
      unfold byt at hcell
      have hx256 := x.toNat_lt
      have HN := Lib.hid hnext
      have b0 := u32_byte s x.toNat hs hx256
      have hs0 : s ^^^ x.toNat < 4294967296 := Nat.xor_lt_two_pow (n := 32) hs (by omega)
      obtain ⟨s0, he0⟩ : ∃ s0, s0 = s ^^^ x.toNat := ⟨_, rfl⟩
      rw [← he0] at b0 hs0
      have HE0 := Lib.hid he0
      clear hx hnext he0
      go_wp2_with fail
      go_loopg [3, 16] 8 (fun q sv iv wr => ∃ (k t : Nat), k + q = 8 ∧ iv = .int .i64 (k : Int) ∧ sv = .int .u32 (t : Int) ∧ t < 4294967296 ∧ Hid (crcN 8 s0 = crcN (8 - k) t) ∧ w = wr)
      case atStart => exact ⟨0, s0, rfl, rfl, rfl, hs0, rfl, rfl⟩
      case round =>
        obtain ⟨k, t, hk, rfl, rfl, ht, HT, rfl⟩ := hrel
        by_cases hk8 : k < 8
        · have b1 := u32_low t ht
          have b2 := u32_pol t ht
          have HB := Lib.hid (crcBit_lt ht)
          have HT2 : Hid (crcN 8 s0 = crcN (8 - (k + 1)) (crcBit t)) := by
            have := HT.out
            rw [show 8 - k = (8 - (k + 1)) + 1 by omega] at this
            exact this
          have HK := Lib.hid hk
          clear hk
          by_cases hodd : t % 2 = 1
          · have g1 : ((t : Int) % 2 == 1) = true := beq_iff_eq.2 (by omega)
            have HC : Hid (crcBit t = t / 2 ^^^ crcP) := show _ = _ by unfold crcBit; rw [if_pos hodd]
            clear hodd
            go_wp2
            go_roundg (7 - k)
            case measure => have := HK.out; omega
            case rel => exact ⟨k + 1, crcBit t, by have := HK.out; omega, by go_num, by rw [HC.out], HB.out, HT2.out, rfl⟩
          · have g1 : ((t : Int) % 2 == 1) = false := beq_eq_false_iff_ne.2 (by omega)
            have HC : Hid (crcBit t = t / 2) := show _ = _ by unfold crcBit; rw [if_neg hodd]
            clear hodd
            go_wp2
            go_roundg (7 - k)
            case measure => have := HK.out; omega
            case rel => exact ⟨k + 1, crcBit t, by have := HK.out; omega, by go_num, by rw [HC.out]; simp, HB.out, HT2.out, rfl⟩
        · obtain rfl : k = 8 := by omega
          clear hk
          go_wp2
          go_roundg (n - (j + 1))
          case measure => have := HJ.out; omega
          case rel =>
            have hT : crcN 8 s0 = t := HT.out
            refine ⟨j + 1, t, by have := HJ.out; omega, by go_num, rfl, ht, ?_, rfl⟩
            exact (show _ = _ by rw [HN.out, HS.out, ← hT, HE0.out]; rfl)
    · obtain rfl : j = n := by have := HJ.out; omega
      go_wp2
      go_ret
      refine ⟨ret_int ?_, rfl⟩
      rw [u32_not s hs]
      have := HS.out
      rw [List.take_of_length_le (by rw [HL.out]; omega)] at this
      unfold sumOf
      rw [this]

set_option maxHeartbeats 2000000 in
set_option maxRecDepth 100000 in
theorem sum_ref (h : Bts w A n c l) :
    Calls Try.prog 42 #[.slice A n c] w fun e w' => e = .returned (.int .u32 (sumOf l : Int)) ∧ w = w' := by
  obtain ⟨h0, hrd, hnc, hcm, hln⟩ := h
  have HL := Lib.hid hln
  clear hln
  unfold maxLen at hcm
  go_enter Try.func42, Try.ntmps42
  go_wp2_with fail
  go_loopg [3, 4] n (fun k sv iv wr => ∃ (j s : Nat), j + k = n ∧ iv = .int .i64 (j : Int) ∧ sv = .int .u32 (s : Int) ∧ s < 4294967296 ∧ Hid (crcAll 4294967295 (l.take j) = s) ∧ w = wr)
  case atStart => exact ⟨0, 4294967295, by omega, rfl, rfl, by omega, rfl, rfl⟩
  case round =>
    obtain ⟨j, s, hj, rfl, rfl, hs, HS, rfl⟩ := hrel
    have HJ := Lib.hid hj
    clear hj
    by_cases hlt : j < n
    · obtain ⟨ad, u, rfl, _, hx, hcell⟩ := hrd.at_ hlt
      have hjl : j < l.length := by rw [HL.out]; exact hlt
      have hxb : u = byt l[j] := by simpa [hjl] using hx.symm
      subst hxb
      have hnext : crcAll 4294967295 (l.take (j + 1)) = crcByte (crcAll 4294967295 (l.take j)) l[j] := by
        rw [List.take_succ_eq_append_getElem hjl, crcAll_append]; rfl
      generalize l[j] = x at *
      unfold byt at hcell
      have hx256 := x.toNat_lt
      have HN := Lib.hid hnext
      clear hx hnext
      go_wp2_with fail
      go_loopg [3, 5] 8 (fun q sv iv wr => ∃ (k t : Nat), k + q = 8 ∧ iv = .int .i64 (k : Int) ∧ sv = .int .u32 (t : Int) ∧ t < 4294967296 ∧ Hid (refN x.toNat k s = t) ∧ w = wr)
      case atStart => exact ⟨0, s, rfl, rfl, rfl, hs, rfl, rfl⟩
      case round =>
        obtain ⟨k, t, hk, rfl, rfl, ht, HT, rfl⟩ := hrel
        by_cases hk8 : k < 8
        · have HK := Lib.hid hk
          clear hk
          obtain ⟨q, hq⟩ : ∃ q, q = t ^^^ x.toNat / 2 ^ k := ⟨_, rfl⟩
          have hxk : x.toNat / 2 ^ k < 256 := Nat.lt_of_le_of_lt (Nat.div_le_self _ _) hx256
          have bx : bits .xor .u32 (t : Int) ((x.toNat : Int) / 2 ^ k % 4294967296) = (q : Int) := by
            have e : ((x.toNat : Int) / 2 ^ k % 4294967296) = ((x.toNat / 2 ^ k : Nat) : Int) := by
              rw [show ((x.toNat : Int) / 2 ^ k) = ((x.toNat / 2 ^ k : Nat) : Int) by simp]
              generalize x.toNat / 2 ^ k = y at hxk ⊢
              omega
            rw [e, u32_byte t _ ht hxk, hq]
          have hq32 : q < 4294967296 := by rw [hq]; exact Nat.xor_lt_two_pow (n := 32) ht (by omega)
          have ba := u32_low q hq32
          have b2 := u32_pol t ht
          have hnx : refN x.toNat (k + 1) s = if q % 2 = 1 then t / 2 ^^^ crcP else t / 2 := by
            rw [hq, refN, HT.out]
            rfl
          have hn32 : t / 2 ^^^ crcP < 4294967296 := Nat.xor_lt_two_pow (n := 32) (by omega) (by decide)
          have HN32 := Lib.hid hn32
          clear hq hxk hn32
          by_cases hodd : q % 2 = 1
          · have g1 : ((q : Int) % 2 == 1) = true := beq_iff_eq.2 (by omega)
            rw [if_pos hodd] at hnx
            have HX := Lib.hid hnx
            clear hodd hnx
            go_wp2
            go_roundg (7 - k)
            case measure => have := HK.out; omega
            case rel => exact ⟨k + 1, t / 2 ^^^ crcP, by have := HK.out; omega, by go_num, rfl, HN32.out, HX.out, rfl⟩
          · have g1 : ((q : Int) % 2 == 1) = false := beq_eq_false_iff_ne.2 (by omega)
            rw [if_neg hodd] at hnx
            have HX := Lib.hid hnx
            clear hodd hnx
            go_wp2
            go_roundg (7 - k)
            case measure => have := HK.out; omega
            case rel => exact ⟨k + 1, t / 2, by have := HK.out; omega, by go_num, by simp, by omega, HX.out, rfl⟩
        · obtain rfl : k = 8 := by omega
          clear hk
          go_wp2
          go_roundg (n - (j + 1))
          case measure => have := HJ.out; omega
          case rel =>
            refine ⟨j + 1, t, by have := HJ.out; omega, by go_num, rfl, ht, ?_, rfl⟩
            exact (show _ = _ by rw [HN.out, HS.out, ← HT.out, refN_byte])
    · obtain rfl : j = n := by have := HJ.out; omega
      go_wp2
      go_ret
      refine ⟨ret_int ?_, rfl⟩
      rw [u32_not s hs]
      have := HS.out
      rw [List.take_of_length_le (by rw [HL.out]; omega)] at this
      unfold sumOf
      rw [this]
end
end Go.Proofs.Ytifldkcfbggkeaa
