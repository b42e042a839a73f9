/- pack.I, pack.S, and the reference's writers: what each hands back. Conditions: the slice can be read. -/
import Derived.Test.YtifldkcfbggkeaaPackW
import Derived.Lib.AppendStr
namespace Go.Proofs.Ytifldkcfbggkeaa
open Go.RowKit

theorem zig_bits (v : Int) (h1 : -9223372036854775808 ≤ v) (h2 : v ≤ 9223372036854775807) :
    bits .xor .u64 (IntKind.u64.wrap (wrap64 (v * 2))) (IntKind.u64.wrap (v / 9223372036854775808)) = ((zig v : Nat) : Int) := by
  by_cases h0 : 0 ≤ v
  · have e1 : IntKind.u64.wrap (wrap64 (v * 2)) = ((zig v : Nat) : Int) := by
      rw [IntKind.wrap_u64]; unfold wrap64 zig; rw [if_pos h0]; omega
    have e2 : IntKind.u64.wrap (v / 9223372036854775808) = ((0 : Nat) : Int) := by rw [IntKind.wrap_u64]; omega
    rw [e1, e2, bits_xor_u64_nat _ _ (zig_lt h1 h2) (by omega), Nat.xor_zero]
  · have hz : zig v = (2 * (-(v + 1)) + 1).toNat := by unfold zig; rw [if_neg h0]
    have e1 : IntKind.u64.wrap (wrap64 (v * 2)) = ((18446744073709551615 - zig v : Nat) : Int) := by
      rw [IntKind.wrap_u64, hz]; unfold wrap64; omega
    have e2 : IntKind.u64.wrap (v / 9223372036854775808) = ((18446744073709551615 : Nat) : Int) := by rw [IntKind.wrap_u64]; omega
    have hl := zig_lt h1 h2
    rw [e1, e2, bits_xor_u64_nat _ _ (by omega) (by omega)]
    have := xor_ones 64 (18446744073709551615 - zig v) (by omega)
    rw [show (2 : Nat) ^ 64 - 1 = 18446744073709551615 from rfl] at this
    rw [this]
    omega

set_option maxHeartbeats 400000 in
theorem packI_any {w : World} {A : Option Addr} {n c : Nat} {l : List UInt8} (v : Int) (h : Bts w A n c l) (hn : n ≤ 140737488355000) (h1 : -9223372036854775808 ≤ v) (h2 : v ≤ 9223372036854775807) :
    Calls Try.prog 38 #[.slice A n c, .int .i64 v] w (Put w (l ++ putU (zig v))) := by
  have C := Lib.hid (packU_any (zig v) h hn (zig_lt h1 h2))
  have HZ := Lib.hid (zig_bits v h1 h2)
  generalize l ++ putU (zig v) = r at C ⊢
  go_enter Try.func38, Try.ntmps38
  go_wp2_with fail
  rw [HZ.out]
  refine C.out.mono ?_
  rintro e w1 ⟨g, c1, rfl, hown, hbel⟩
  go_wp2
  go_ret
  exact ⟨g, c1, rfl, hown, hbel⟩

set_option maxHeartbeats 1000000 in
set_option maxRecDepth 100000 in
theorem putU_ref {w : World} {A : Option Addr} {n c : Nat} {l : List UInt8} (u : Nat) (h : Bts w A n c l) (hn : n ≤ 140737488355000) (hu : u < 18446744073709551616) :
    Calls Try.prog 37 #[.slice A n c, .int .u64 (u : Int)] w (Put w (l ++ putU u)) := by
  obtain ⟨i0, hi0, hz0, hz1, hz2⟩ := info_parts info_u8
  have ht := putU_ten hu
  obtain ⟨_, hrd, _, _, hl⟩ := h
  have HL := Lib.hid hl
  clear hl
  go_enter Try.func37, Try.ntmps37
  go_wp2_with (at_builtin; go_must (refine wpList_append_any _ rfl (.tmp 6) (.tmp 7) _ rfl w.heap.size 5 i0 _ 1 1 Try.underlying27 hi0 hz0 hz1 hz2 rfl (by omega) (.slice (some ⟨w.heap.size, 0, none⟩) 0 0) 0 [] rfl (World.ownsRow_lit w #[] 0 (Nat.le_refl _) (by unfold maxLen; omega) rfl) w.heap.size A n c (l.map byt) rfl (hrd.alloc (Nat.le_refl _) _) (byt_one _) (by simp only [maxLen]; omega) (by omega) (by simp) ?_); intro v1 w1 hown1 hg1 hat1)
  have hown : w1.ownsRow w.heap.size 5 1 v1 l.length (l.map byt) := by rw [HL.out]; simpa using hown1
  have hbel : Below w.heap.size w w1 := ((Below.refl _ _).alloc (Nat.le_refl _) _).grown hg1 (by simp) (fun k hk => by simp [Value.ownBlock] at hk; omega)
  clear hown1 hg1 hat1 hrd
  go_loopg [1, 5] u (fun k uv bv wr => ∃ (u' : Nat) (r : List UInt8), u' ≤ k ∧ uv = .int .u64 (u' : Int) ∧ Hid (r ++ putU u' = l ++ putU u) ∧ u' < 18446744073709551616 ∧
    wr.ownsRow w.heap.size 5 1 bv r.length (r.map byt) ∧ Below w.heap.size w wr)
  case atStart => exact ⟨u, l, Nat.le_refl _, rfl, rfl, hu, hown, hbel⟩
  case round =>
    clear hown hbel
    obtain ⟨u', r, hk, rfl, HR, hu', hown, hB⟩ := hrel
    have hrl : r.length + (putU u').length = n + (putU u).length := by
      have := congrArg List.length HR.out
      simp only [List.length_append] at this
      rw [HL.out] at this
      exact this
    have hp := putU_pos u'
    by_cases hs : u' < 128
    · have e1 : putU u' = [UInt8.ofNat u'] := putU_small hs
      have HO := Lib.hid hown
      have HE1 := Lib.hid e1
      have hr0 : r.length ≤ 140737488355100 := by omega
      clear hrl e1 hown
      go_wp2_with (at_builtin; go_must (refine wpList_append_lies _ rfl (.tmp 20) (.tmp 23) _ rfl w.heap.size 5 i0 _ 1 1 Try.underlying27 hi0 hz0 hz1 hz2 rfl (by omega) u5 r.length (r.map byt) rfl (HO.out.alloc _) ⟨wr.heap.size, 0, none⟩ 1 1 [.int .u8 _] rfl rfl (cell_one_new _ _ _) (byte_one _) (by omega) (by unfold maxLen; omega) (by omega) (by have := hB.size; simp; omega) _ rfl ?_); intro g c1 w2 hown2 hg2 hat2 hlt2)
      go_ret
      have hx := own_more (UInt8.ofNat u') (by simp; omega) rfl hown2
      rw [← HE1.out, HR.out] at hx
      refine ⟨g, c1, ?_, hx, hB.trans (own_lt HO.out hB.size hg2)⟩
      have := congrArg List.length HR.out
      rw [HE1.out] at this
      rw [← this]
      simp
    · have e1 : putU u' = UInt8.ofNat (u' % 128 + 128) :: putU (u' / 128) := putU_big hs
      have HO := Lib.hid hown
      have HE1 := Lib.hid e1
      have hr0 : r.length ≤ 140737488355100 := by omega
      clear hrl e1 hown
      go_wp2_with (at_builtin; go_must (refine wpList_append_lies _ rfl (.tmp 11) (.tmp 16) _ rfl w.heap.size 5 i0 _ 1 1 Try.underlying27 hi0 hz0 hz1 hz2 rfl (by omega) u5 r.length (r.map byt) rfl (HO.out.alloc _) ⟨wr.heap.size, 0, none⟩ 1 1 [.int .u8 _] rfl rfl (cell_one_new _ _ _) (byte_one _) (by omega) (by unfold maxLen; omega) (by omega) (by have := hB.size; simp; omega) _ rfl ?_); intro g c1 w2 hown2 hg2 hat2 hlt2)
      go_roundg (u' / 128)
      case measure => omega
      case rel =>
        have hx := own_more (UInt8.ofNat (u' % 128 + 128)) (by simp; omega) rfl hown2
        refine ⟨u' / 128, r ++ [UInt8.ofNat (u' % 128 + 128)], Nat.le_refl _, by simp, ?_, by omega, by simpa using hx, hB.trans (own_lt HO.out hB.size hg2)⟩
        have := HR.out
        rw [HE1.out] at this
        exact (show _ = _ by simpa using this)

set_option maxHeartbeats 400000 in
theorem putI_ref {w : World} {A : Option Addr} {n c : Nat} {l : List UInt8} (v : Int) (h : Bts w A n c l) (hn : n ≤ 140737488355000) (h1 : -9223372036854775808 ≤ v) (h2 : v ≤ 9223372036854775807) :
    Calls Try.prog 39 #[.slice A n c, .int .i64 v] w (Put w (l ++ putU (zig v))) := by
  have C := Lib.hid (putU_ref (zig v) h hn (zig_lt h1 h2))
  generalize l ++ putU (zig v) = r at C ⊢
  by_cases h0 : v < 0
  · have HZ : Hid ((zig v : Int) = 2 * -(v + 1) + 1) := show _ = _ by unfold zig; rw [if_neg (by omega)]; omega
    go_enter Try.func39, Try.ntmps39
    go_wp2_with fail
    rw [← HZ.out]
    refine C.out.mono ?_
    rintro e w1 ⟨g, c1, rfl, hown, hbel⟩
    go_wp2
    go_ret
    exact ⟨g, c1, rfl, hown, hbel⟩
  · have HZ : Hid ((zig v : Int) = 2 * v) := show _ = _ by unfold zig; rw [if_pos (by omega)]; omega
    have h3 : 0 ≤ v := by omega
    go_enter Try.func39, Try.ntmps39
    go_wp2_with fail
    rw [← HZ.out]
    refine C.out.mono ?_
    rintro e w1 ⟨g, c1, rfl, hown, hbel⟩
    go_wp2
    go_ret
    exact ⟨g, c1, rfl, hown, hbel⟩

theorem strCells_byt (s : List UInt8) : Lib.strCells ⟨s.toArray⟩ = s.map byt := by
  simp [Lib.strCells, byt]

theorem put_str {w w1 w2 : World} {base g c : Nat} {r s : List UInt8} {v' : Value} (hown : w1.ownsRow base 5 1 (.slice (some ⟨g, 0, none⟩) r.length c) r.length (r.map byt)) (h0 : base = w.heap.size) (hpos : 0 < r.length)
    (h1 : w2.ownsRow base 5 1 v' (r.length + s.length) (r.map byt ++ Lib.strCells ⟨s.toArray⟩)) (h2 : w1.grownBy w2 (some g)) (hbel : Below w.heap.size w w1) :
    Put w (r ++ s) (.returned v') w2 := by
  subst h0
  rw [strCells_byt] at h1
  obtain ⟨g', c', hv, hg', _⟩ := h1.form (by omega)
  subst hv
  have e : r.length + s.length = (r ++ s).length := by simp
  rw [e, ← List.map_append] at h1
  refine ⟨g', c', by rw [e], h1, hbel.grown h2 hbel.size (fun k hk => ?_)⟩
  obtain rfl : g = k := by simpa using hk
  exact (hown.lt g rfl).1

set_option maxHeartbeats 400000 in
theorem packS_any {w : World} {A : Option Addr} {n c : Nat} {l : List UInt8} (s : List UInt8) (h : Bts w A n c l) (hn : n + s.length ≤ 140737488355000) :
    Calls Try.prog 40 #[.slice A n c, .string ⟨s.toArray⟩] w (Put w (l ++ putU s.length ++ s)) := by
  obtain ⟨i0, hi0, hz0, hz1, hz2⟩ := info_parts info_u8
  have C := Lib.hid (packU_any s.length h (by omega) (by omega))
  have hl := h.2.2.2.2
  have ht := putU_ten (show s.length < 18446744073709551616 by omega)
  have hp := putU_pos s.length
  have hsz : ByteArray.size ⟨s.toArray⟩ = s.length := rfl
  have hr : (l ++ putU s.length).length ≤ n + 10 := by simp; omega
  have hr1 : 0 < (l ++ putU s.length).length := by simp; omega
  generalize l ++ putU s.length = r at *
  clear hl ht hp h
  go_enter Try.func40, Try.ntmps40
  go_wp2_with fail
  refine C.out.mono ?_
  rintro e w1 ⟨g, c1, rfl, hown, hbel⟩
  have HO := Lib.hid hown
  clear hown
  go_wp2_with (at_builtin; go_must (refine Lib.wpList_append_own_string _ rfl (.tmp 9) (.tmp 10) _ _ rfl w.heap.size 5 i0 Try.underlying27 Try.underlying9 hi0 hz0 hz1 hz2 (.slice (some ⟨g, 0, none⟩) r.length c1) r.length (r.map byt) rfl HO.out ⟨s.toArray⟩ rfl (by rw [hsz]; unfold maxLen; omega) (by rw [hsz]; omega) hbel.size ?_); intro v2 w2 hown2 hg2 hat2)
  go_ret
  exact put_str HO.out rfl hr1 hown2 hg2 hbel

set_option maxHeartbeats 400000 in
theorem putS_ref {w : World} {A : Option Addr} {n c : Nat} {l : List UInt8} (s : List UInt8) (h : Bts w A n c l) (hn : n + s.length ≤ 140737488355000) :
    Calls Try.prog 41 #[.slice A n c, .string ⟨s.toArray⟩] w (Put w (l ++ putU s.length ++ s)) := by
  obtain ⟨i0, hi0, hz0, hz1, hz2⟩ := info_parts info_u8
  have C := Lib.hid (putU_ref s.length h (by omega) (by omega))
  have hl := h.2.2.2.2
  have ht := putU_ten (show s.length < 18446744073709551616 by omega)
  have hp := putU_pos s.length
  have hsz : ByteArray.size ⟨s.toArray⟩ = s.length := rfl
  have hr : (l ++ putU s.length).length ≤ n + 10 := by simp; omega
  have hr1 : 0 < (l ++ putU s.length).length := by simp; omega
  generalize l ++ putU s.length = r at *
  clear hl ht hp h
  go_enter Try.func41, Try.ntmps41
  go_wp2_with fail
  refine C.out.mono ?_
  rintro e w1 ⟨g, c1, rfl, hown, hbel⟩
  have HO := Lib.hid hown
  clear hown
  go_wp2_with (at_builtin; go_must (refine Lib.wpList_append_own_string _ rfl (.tmp 9) (.tmp 10) _ _ rfl w.heap.size 5 i0 Try.underlying27 Try.underlying9 hi0 hz0 hz1 hz2 (.slice (some ⟨g, 0, none⟩) r.length c1) r.length (r.map byt) rfl HO.out ⟨s.toArray⟩ rfl (by rw [hsz]; unfold maxLen; omega) (by rw [hsz]; omega) hbel.size ?_); intro v2 w2 hown2 hg2 hat2)
  go_ret
  exact put_str HO.out rfl hr1 hown2 hg2 hbel
end Go.Proofs.Ytifldkcfbggkeaa
