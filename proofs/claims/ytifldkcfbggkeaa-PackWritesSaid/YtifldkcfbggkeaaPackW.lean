/- pack's writers: what each hands back. Conditions: the slice can be read. -/
import Derived.Test.YtifldkcfbggkeaaPackM
import Derived.Test.YtifldkcfbggkeaaDiskM
import Derived.Test.YtifldkcfbggkeaaClone
import Derived.Deep.LoopGhost
namespace Go.Proofs.Ytifldkcfbggkeaa
open Go.RowKit

/-- What a writer hands back: the bytes r, in new memory. -/
def Put (w : World) (r : List UInt8) (e : Ending) (w' : World) : Prop :=
  ∃ g c, e = .returned (.slice (some ⟨g, 0, none⟩) r.length c) ∧ w'.ownsRow w.heap.size 5 1 (.slice (some ⟨g, 0, none⟩) r.length c) r.length (r.map byt) ∧ Below w.heap.size w w'

theorem clone_any {w : World} {A : Option Addr} {n c : Nat} {l : List UInt8} (h : Bts w A n c l) (hn : n ≤ 140737488355328) :
    Calls Try.prog 48 #[.slice A n c] w fun e w' => ∃ v, e = .returned v ∧ w'.ownsRow w.heap.size 5 1 v l.length (l.map byt) ∧ Below w.heap.size w w' := by
  obtain ⟨h0, hr, _, _, hl⟩ := h
  subst hl
  cases A with
  | none =>
    obtain ⟨h1, rfl⟩ := h0 rfl
    obtain rfl : l = [] := List.eq_nil_of_length_eq_zero h1
    exact (clone_bytes_nil w).mono fun e w' ⟨he, hw⟩ => by subst hw; exact ⟨_, he, World.ownsRow_nil _ _ _ _, Below.refl _ _⟩
  | some ad => exact (clone_bytes_some ad _ c _ w hr (byt_one l) hn).mono fun e w' ⟨v, he, ho, hb, _⟩ => ⟨v, he, ho, hb⟩

theorem byte_one (k : Int) : ∀ u ∈ [Value.int .u8 k], u.oneCell' = true := by
  intro u hu
  simp at hu
  subst hu
  rfl

/-- One byte more. -/
theorem own_more {w : World} {base : Nat} {g c n : Nat} {r : List UInt8} {k : Int} (x : UInt8) (hk : k = (x.toNat : Int)) (hn : r.length = n)
    (h : w.ownsRow base 5 1 (.slice (some ⟨g, 0, none⟩) (n + 1) c) (n + 1) (r.map byt ++ [.int .u8 k])) :
    w.ownsRow base 5 1 (.slice (some ⟨g, 0, none⟩) (r ++ [x]).length c) (r ++ [x]).length ((r ++ [x]).map byt) := by
  subst hn hk
  simpa [byt] using h

theorem own_lt {w w' : World} {base : Nat} {v : Value} {n : Nat} {xs : List Value} (h : w.ownsRow base 5 1 v n xs) {o : Obj} (hb : base ≤ w.heap.size) (hg : (w.alloc o).grownBy w' v.ownBlock) : Below base w w' :=
  ((Below.refl base w).alloc hb o).grown hg (by simp; omega) (fun k hk => (h.lt k hk).1)

theorem and127 (u : Nat) (h : u < 18446744073709551616) : bits .and .u64 (u : Int) 127 = (u : Int) % 128 := by
  have := bits_and_u64_nat u 127 h (by omega)
  rw [nat_mask7] at this
  simpa using this
theorem or128 (u : Nat) : bits .or .u64 ((u : Int) % 128) 128 = (u : Int) % 128 + 128 := by
  have h1 : u % 128 < 128 := by omega
  have := bits_or_u64_nat (u % 128) 128 (by omega) (by omega)
  have e : u % 128 ||| 128 = u % 128 + 128 := by rw [Nat.or_comm, nat_join 7 128 (u % 128) (by omega) (by omega)]; omega
  rw [e] at this
  simpa using this

set_option maxHeartbeats 1000000 in
theorem packU_any {w : World} {A : Option Addr} {n c : Nat} {l : List UInt8} (u : Nat) (h : Bts w A n c l) (hn : n ≤ 140737488355000) (hu : u < 18446744073709551616) :
    Calls Try.prog 36 #[.slice A n c, .int .u64 (u : Int)] w (Put w (l ++ putU u)) := by
  obtain ⟨i0, hi0, hz0, hz1, hz2⟩ := info_parts info_u8
  have CL := Lib.hid (clone_any h (by omega))
  have hl := h.2.2.2.2
  have ht := putU_ten hu
  have HL := Lib.hid hl
  clear h hl
  go_enter Try.func36, Try.ntmps36
  go_wp2_with fail
  refine CL.out.mono ?_
  rintro e w1 ⟨v, rfl, hown, hbel⟩
  go_wp2_with fail
  go_loopg [0, 1] u (fun k bv uv wr => ∃ (u' : Nat) (r : List UInt8), u' ≤ k ∧ uv = .int .u64 (u' : Int) ∧ Hid (r ++ putU u' = l ++ putU u) ∧ u' < 18446744073709551616 ∧
    wr.ownsRow w.heap.size 5 1 bv r.length (r.map byt) ∧ Below w.heap.size w wr)
  case atStart => exact ⟨u, l, Nat.le_refl _, rfl, rfl, hu, by rw [HL.out]; have := hown; rwa [HL.out] at this, hbel⟩
  case round =>
    clear hown hbel
    obtain ⟨u', r, hk, rfl, HR, hu', hown, hB⟩ := hrel
    have hrl : r.length + (putU u').length = n + (putU u).length := by
      have := congrArg List.length HR.out
      simp only [List.length_append] at this
      rw [HL.out] at this
      exact this
    have hp := putU_pos u'
    by_cases hs : u' < 128
    · have e1 : putU u' = [UInt8.ofNat u'] := putU_small hs
      have HO := Lib.hid hown
      have HE1 := Lib.hid e1
      have hr0 : r.length ≤ 140737488355100 := by omega
      clear hrl e1 hown
      go_wp2_with (at_builtin; go_must (refine wpList_append_lies _ rfl (.tmp 18) (.tmp 21) _ rfl w.heap.size 5 i0 _ 1 1 Try.underlying27 hi0 hz0 hz1 hz2 rfl (by omega) u0 r.length (r.map byt) rfl (HO.out.alloc _) ⟨wr.heap.size, 0, none⟩ 1 1 [.int .u8 (u' : Int)] rfl rfl (cell_one_new _ _ _) (byte_one _) (by omega) (by unfold maxLen; omega) (by omega) (by have := hB.size; simp; omega) _ rfl ?_); intro g c1 w2 hown2 hg2 hat2 hlt2)
      go_ret
      have hx := own_more (UInt8.ofNat u') (by simp; omega) rfl hown2
      rw [← HE1.out, HR.out] at hx
      refine ⟨g, c1, ?_, hx, hB.trans (own_lt HO.out hB.size hg2)⟩
      have := congrArg List.length HR.out
      rw [HE1.out] at this
      rw [← this]
      simp
    · have e1 : putU u' = UInt8.ofNat (u' % 128 + 128) :: putU (u' / 128) := putU_big hs
      have HO := Lib.hid hown
      have HE1 := Lib.hid e1
      have hr0 : r.length ≤ 140737488355100 := by omega
      have b1 := and127 u' hu'
      have b2 := or128 u'
      clear hrl e1 hown
      go_wp2_with (at_builtin; go_must (refine wpList_append_lies _ rfl (.tmp 11) (.tmp 16) _ rfl w.heap.size 5 i0 _ 1 1 Try.underlying27 hi0 hz0 hz1 hz2 rfl (by omega) u0 r.length (r.map byt) rfl (HO.out.alloc _) ⟨wr.heap.size, 0, none⟩ 1 1 [.int .u8 _] rfl rfl (cell_one_new _ _ _) (byte_one _) (by omega) (by unfold maxLen; omega) (by omega) (by have := hB.size; simp; omega) _ rfl ?_); intro g c1 w2 hown2 hg2 hat2 hlt2)
      go_roundg (u' / 128)
      case measure => omega
      case rel =>
        have hx := own_more (UInt8.ofNat (u' % 128 + 128)) (by simp; omega) rfl hown2
        refine ⟨u' / 128, r ++ [UInt8.ofNat (u' % 128 + 128)], Nat.le_refl _, by simp, ?_, by omega, by simpa using hx, hB.trans (own_lt HO.out hB.size hg2)⟩
        have := HR.out
        rw [HE1.out] at this
        exact (show _ = _ by simpa using this)
end Go.Proofs.Ytifldkcfbggkeaa
