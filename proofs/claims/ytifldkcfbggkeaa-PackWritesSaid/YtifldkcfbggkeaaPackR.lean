/- pack's reader: what each call answers, and what it leaves. Conditions: the reader lies in memory as RdAt says. -/
import Derived.Test.YtifldkcfbggkeaaPackW
import Derived.Test.YtifldkcfbggkeaaKeepsM
namespace Go.Proofs.Ytifldkcfbggkeaa
open Go.RowKit

/-- A reader's struct (of type t) lies in block p: what is left, and whether it is bad. -/
def RdAt (t : TypeId) (w : World) (p : Nat) (l : List UInt8) (bad : Bool) : Prop :=
  ∃ A n c, Blk w p t #[.slice A n c, .bool bad] ∧ BtsB w p A n c l

theorem BtsB.kept {w w' : World} {S : Nat → Prop} {B0 n c : Nat} {A : Option Addr} {l : List UInt8} (h : BtsB w B0 A n c l) (hB : B0 ≤ w.heap.size) (hk : Kept S w w') (hS : ∀ i, S i → B0 ≤ i) : BtsB w' B0 A n c l :=
  h.below (hk.below hB hS)
theorem RdAt.kept {t : TypeId} {w w' : World} {S : Nat → Prop} {p : Nat} {l : List UInt8} {bad : Bool} (h : RdAt t w p l bad) (hk : Kept S w w') (hS : ∀ i, S i → p < i) : RdAt t w' p l bad := by
  obtain ⟨A, n, c, hb, hl⟩ := h
  exact ⟨A, n, c, hk.blk hb (fun h => by have := hS _ h; omega), hl.kept (Nat.le_of_lt hb.lt) hk (fun i hi => Nat.le_of_lt (hS i hi))⟩
theorem RdAt.below {t : TypeId} {w w' : World} {p : Nat} {l : List UInt8} {bad : Bool} (h : RdAt t w p l bad) (hb : Below w.heap.size w w') : RdAt t w' p l bad := by
  obtain ⟨A, n, c, hb1, hl⟩ := h
  exact ⟨A, n, c, hb1.below hb hb1.lt, hl.below (hb.mono (Nat.le_of_lt hb1.lt))⟩

/-- One number read: the number, what is left, whether the reader is bad. -/
def rdNum (l : List UInt8) (bad : Bool) : Nat × List UInt8 × Bool :=
  match rdU 0 0 l with
  | some (u, r) => (u, r, bad)
  | none => (0, [], true)

theorem rd_bits (acc x j : Nat) (h1 : acc < 2 ^ (7 * j)) (hj : j ≤ 9) (hx : x < 256) (h9 : j = 9 → x ≤ 1) :
    bits .or .u64 (acc : Int) (IntKind.u64.wrap (IntKind.u64.wrap (bits .and .u8 (x : Int) 127) * 2 ^ (7 * j))) = ((acc + x % 128 * 2 ^ (7 * j) : Nat) : Int) ∧ acc + x % 128 * 2 ^ (7 * j) < 18446744073709551616 ∧ (j < 9 → acc + x % 128 * 2 ^ (7 * j) < 2 ^ (7 * (j + 1))) := by
  have ea : bits .and .u8 (x : Int) 127 = ((x % 128 : Nat) : Int) := by
    have := u8_and_nat x 127 hx (by omega)
    rw [nat_mask7] at this
    exact this
  have hp : 0 < 2 ^ (7 * j) := Nat.pow_pos (by omega)
  have hlt : acc + x % 128 * 2 ^ (7 * j) < 128 * 2 ^ (7 * j) := by
    have : x % 128 * 2 ^ (7 * j) ≤ 127 * 2 ^ (7 * j) := Nat.mul_le_mul_right _ (by omega)
    omega
  have e7 : 2 ^ (7 * (j + 1)) = 128 * 2 ^ (7 * j) := by rw [show 7 * (j + 1) = 7 + 7 * j by omega, Nat.pow_add]
  have h64 : acc + x % 128 * 2 ^ (7 * j) < 18446744073709551616 := by
    by_cases e : j = 9
    · subst e
      have : x % 128 ≤ 1 := by have := h9 rfl; omega
      have : x % 128 * 2 ^ (7 * 9) ≤ 1 * 2 ^ (7 * 9) := Nat.mul_le_mul_right _ this
      omega
    · have : 2 ^ (7 * (j + 1)) ≤ 2 ^ 63 := Nat.pow_le_pow_right (by omega) (by omega)
      omega
  refine ⟨?_, h64, fun _ => by omega⟩
  have ew : IntKind.u64.wrap (IntKind.u64.wrap (bits .and .u8 (x : Int) 127) * 2 ^ (7 * j)) = ((x % 128 * 2 ^ (7 * j) : Nat) : Int) := by
    rw [ea, IntKind.wrap_u64, IntKind.wrap_u64]
    have e1 : (((x % 128 : Nat) : Int) % 18446744073709551616) = ((x % 128 : Nat) : Int) := by omega
    rw [e1, show ((2 : Int) ^ (7 * j)) = ((2 ^ (7 * j) : Nat) : Int) by simp, ← Int.natCast_mul]
    omega
  rw [ew, bits_or_u64_nat _ _ (by omega) (by omega)]
  congr 1
  rw [Nat.or_comm, nat_join (7 * j) _ _ (by rw [Nat.mul_mod_left]) h1, Nat.add_comm]

theorem ret_int {k : IntKind} {a b : Int} (h : a = b) : Ending.returned (.int k a) = .returned (.int k b) := by rw [h]

section
variable {w : World} {p : Nat} {l : List UInt8} {bad : Bool}

/-- The reader cut behind a number. -/
theorem rd_cut {t : TypeId} {A : Option Addr} {n c k : Nat} {bad : Bool} (hb : Blk w p t #[.slice A n c, .bool bad]) (h0 : A = none → n = 0 ∧ c = 0) (hr : Reads w p 1 A n (l.map byt)) (hnc : n ≤ c) (hc : c ≤ maxLen) (hl : l.length = n) (hk : k ≤ n)
    {A' : Option Addr} (hA : A' = if c = k then A else A.map (·.add k)) : RdAt t (w.setCell ⟨p, 0, none⟩ (.slice A' (n - k) (c - k))) p (l.drop k) bad := by
  refine ⟨A', n - k, c - k, by have := hb.set_ 0 (.slice A' (n - k) (c - k)); simpa using this, ?_, ?_, by omega, by omega, by rw [List.length_drop, hl]⟩
  · intro h
    rw [hA] at h
    split at h
    · have := h0 h; omega
    · cases A with
      | none => have := h0 rfl; omega
      | some a => simp at h
  · have := (hr.cut (k := k) (cap := c) hk hnc).setCell (p := ⟨p, 0, none⟩) (Nat.le_refl _) (.slice A' (n - k) (c - k))
    rw [Nat.mul_one, ← hA, ← List.map_drop] at this
    exact this

theorem rd_cells {t : TypeId} {v0 v1 : Value} (h : Blk w p t #[v0, v1]) : w.cell? ⟨p, 0, none⟩ = some v0 ∧ w.cell? ⟨p, 1, none⟩ = some v1 := ⟨(h.cell 0).trans rfl, (h.cell 1).trans rfl⟩

theorem left_any (h : RdAt 77 w p l bad) :
    Calls Try.prog 33 #[.pointer (some ⟨p, 0, none⟩)] w fun e w' => e = .returned (.int .i64 l.length) ∧ w = w' := by
  obtain ⟨A, n, c, hb, hl⟩ := h
  obtain ⟨c0, c1⟩ := rd_cells hb
  have hn := hl.2.2.2.2
  have h1 := hl.2.2.1
  have h2 := hl.2.2.2.1
  unfold maxLen at h2
  clear hb hl
  subst hn
  go_enter Try.func33, Try.ntmps33
  go_wp2
  go_ret
  exact ⟨rfl, rfl⟩

theorem bad_any (h : RdAt 77 w p l bad) :
    Calls Try.prog 32 #[.pointer (some ⟨p, 0, none⟩)] w fun e w' => e = .returned (.bool bad) ∧ w = w' := by
  obtain ⟨A, n, c, hb, hl⟩ := h
  obtain ⟨c0, c1⟩ := rd_cells hb
  clear hb hl
  go_enter Try.func32, Try.ntmps32
  go_wp2
  go_ret
  exact ⟨rfl, rfl⟩

theorem spoil_any (h : RdAt 77 w p l bad) :
    Calls Try.prog 51 #[.pointer (some ⟨p, 0, none⟩)] w fun e w' => e = .returned (.tuple #[]) ∧ RdAt 77 w' p [] true ∧ Kept (fun k => k = p) w w' := by
  obtain ⟨A, n, c, hb, hl⟩ := h
  obtain ⟨c0, c1⟩ := rd_cells hb
  have f0 := hb.frozen 0
  have f1 := hb.frozen 1
  have HB := Lib.hid hb
  clear hb hl
  go_enter Try.func51, Try.ntmps51
  go_wp2
  go_end0
  refine ⟨rfl, ⟨none, 0, 0, ?_, fun _ => ⟨rfl, rfl⟩, Reads.none_, Nat.le_refl _, Nat.zero_le _, rfl⟩, Kept.set (Kept.set Kept.refl (by exact rfl)) (by exact rfl)⟩
  have := (HB.out.set_ 0 (.slice none 0 0)).set_ 1 (.bool true)
  simpa using this

set_option maxHeartbeats 4000000 in
set_option maxRecDepth 100000 in
theorem readU_any (h : RdAt 77 w p l bad) :
    Calls Try.prog 30 #[.pointer (some ⟨p, 0, none⟩)] w fun e w' => e = .returned (.int .u64 (rdNum l bad).1) ∧ RdAt 77 w' p (rdNum l bad).2.1 (rdNum l bad).2.2 ∧ Kept (fun k => k = p) w w' := by
  have C := Lib.hid (spoil_any h)
  obtain ⟨A, n, c, hb, h0, hrd, hnc, hcm, hln⟩ := h
  obtain ⟨c0, c1⟩ := rd_cells hb
  have f0 := hb.frozen 0
  have HB := Lib.hid hb
  have HL := Lib.hid hln
  clear hb hln
  unfold maxLen at hcm
  go_enter Try.func30, Try.ntmps30
  go_wp2_with fail
  go_loopg [3, 11] 10 (fun k uv iv wr => ∃ (j acc : Nat), j + k = 10 ∧ j ≤ n ∧ j ≤ 9 ∧ acc < 2 ^ (7 * j) ∧ iv = .int .i64 (j : Int) ∧ uv = .int .u64 (acc : Int) ∧ Hid (rdU 0 0 l = rdU j acc (l.drop j)) ∧ w = wr)
  case atStart => exact ⟨0, 0, rfl, by omega, by omega, by simp, rfl, rfl, rfl, rfl⟩
  case round =>
    obtain ⟨j, acc, hj, hjn, hj9, hacc, rfl, rfl, HR, rfl⟩ := hrel
    have HJ := Lib.hid hj
    have HACC := Lib.hid hacc
    clear hj hacc
    by_cases hlt : j < n
    · obtain ⟨ad, u, rfl, _, hx, hcell⟩ := hrd.at_ hlt
      have hjl : j < l.length := by rw [HL.out]; exact hlt
      have hxb : u = byt l[j] := by simpa [hjl] using hx.symm
      subst hxb
      have hdrop : l.drop j = l[j] :: l.drop (j + 1) := List.drop_eq_getElem_cons hjl
      generalize l[j] = x at *
      unfold byt at hcell
      have hx256 := x.toNat_lt
      have HX := Lib.hid hx
      have HD := Lib.hid hdrop
      clear hx hdrop
      by_cases e1 : j = 9 ∧ 1 < x.toNat
      · have g9 : ((j : Int) == 9) = true := beq_iff_eq.2 (by omega)
        have g1 : 1 < (x.toNat : Int) := by omega
        have hv : rdNum l bad = (0, [], true) := by
          have := HR.out
          rw [HD.out, rdU, if_pos e1] at this
          simp [rdNum, this]
        have HV := Lib.hid hv
        clear hv e1
        go_wp2_with fail
        refine C.out.mono ?_
        rintro e w2 ⟨rfl, hr2, hk2⟩
        go_wp2
        go_ret
        rw [HV.out]
        exact ⟨rfl, hr2, hk2⟩
      · obtain ⟨hbits, h64, hnext⟩ := rd_bits acc x.toNat j HACC.out hj9 hx256 (by omega)
        have HBITS := Lib.hid hbits
        have HN := Lib.hid hnext
        have HE1 := Lib.hid e1
        clear hbits hnext
        by_cases e2 : 128 ≤ x.toNat
        · have g9 : ((j : Int) == 9) = false := beq_eq_false_iff_ne.2 (by omega)
          have g2 : 128 ≤ (x.toNat : Int) := by omega
          have hv : rdU 0 0 l = rdU (j + 1) (acc + x.toNat % 128 * 2 ^ (7 * j)) (l.drop (j + 1)) := by
            have := HR.out
            rw [HD.out, rdU, if_neg e1, if_pos e2] at this
            exact this
          have HV := Lib.hid hv
          clear hv e1 e2
          go_wp2_with fail
          go_roundg (9 - j)
          case measure => have := HJ.out; omega
          case rel => exact ⟨j + 1, acc + x.toNat % 128 * 2 ^ (7 * j), by have := HJ.out; omega, by omega, by have := HE1.out; omega, HN.out (by have := HE1.out; omega), by go_num, by rw [HBITS.out], HV.out, rfl⟩
        · have g2 : (x.toNat : Int) < 128 := by omega
          have hd : ((j : Int) == 9) = true ∧ (x.toNat : Int) ≤ 1 ∨ ((j : Int) == 9) = false := by
            by_cases e : j = 9
            · exact .inl ⟨beq_iff_eq.2 (by omega), by omega⟩
            · exact .inr (beq_eq_false_iff_ne.2 (by omega))
          by_cases e3 : x.toNat = 0 ∧ 0 < j
          · have hv : rdNum l bad = (0, [], true) := by
              have := HR.out
              rw [HD.out, rdU, if_neg e1, if_neg e2, if_pos e3] at this
              simp [rdNum, this]
            have HV := Lib.hid hv
            have g0 : ((x.toNat : Int) == 0) = true := beq_iff_eq.2 (by omega)
            have gj : 0 < (j : Int) := by omega
            clear hv e1 e2 e3 HR
            rcases hd with ⟨g9, g1⟩ | g9
            all_goals
              go_wp2_with fail
              refine C.out.mono ?_
              rintro e w2 ⟨rfl, hr2, hk2⟩
              go_wp2
              go_ret
              rw [HV.out]
              exact ⟨rfl, hr2, hk2⟩
          · have hv : rdNum l bad = (acc + x.toNat % 128 * 2 ^ (7 * j), l.drop (j + 1), bad) := by
              have := HR.out
              rw [HD.out, rdU, if_neg e1, if_neg e2, if_neg e3] at this
              simp [rdNum, this]
            have HV := Lib.hid hv
            have hd2 : ((x.toNat : Int) == 0) = true ∧ ¬ 0 < (j : Int) ∨ ((x.toNat : Int) == 0) = false := by
              by_cases e : x.toNat = 0
              · exact .inl ⟨beq_iff_eq.2 (by omega), by omega⟩
              · exact .inr (beq_eq_false_iff_ne.2 (by omega))
            have hcut : ∀ A', A' = (if c = j + 1 then some ad else (some ad).map (·.add (j + 1))) → RdAt 77 (w.setCell ⟨p, 0, none⟩ (.slice A' (n - (j + 1)) (c - (j + 1)))) p (l.drop (j + 1)) bad := fun A' hA => rd_cut HB.out h0 hrd hnc (by unfold maxLen; omega) HL.out (by omega) hA
            have HCUT := Lib.hid hcut
            have HP : Hid (((acc + x.toNat % 128 * 2 ^ (7 * j) : Nat) : Int) = ((acc + x.toNat % 128 * 2 ^ (7 * j) : Nat) : Int)) := rfl
            clear hv e1 e2 e3 HR h64 hcut h0 hrd
            rcases hd with ⟨g9, g1⟩ | g9 <;> rcases hd2 with ⟨g0, gj⟩ | g0
            · go_wp2_with fail
              · go_ret
                rw [HV.out]
                have hz := HCUT.out (some ad) (by rw [if_pos ‹c = j + 1›])
                rw [show c - (j + 1) = 0 by omega] at hz
                exact ⟨ret_int HBITS.out, hz, Kept.set Kept.refl (by exact rfl)⟩
              · go_ret
                rw [HV.out]
                have hz := HCUT.out (some ⟨ad.block, ad.off + (j + 1), none⟩) (by rw [if_neg ‹¬ c = j + 1›]; simp [Addr.add])
                exact ⟨ret_int HBITS.out, hz, Kept.set Kept.refl (by exact rfl)⟩
            · go_wp2_with fail
              · go_ret
                rw [HV.out]
                have hz := HCUT.out (some ad) (by rw [if_pos ‹c = j + 1›])
                rw [show c - (j + 1) = 0 by omega] at hz
                exact ⟨ret_int HBITS.out, hz, Kept.set Kept.refl (by exact rfl)⟩
              · go_ret
                rw [HV.out]
                have hz := HCUT.out (some ⟨ad.block, ad.off + (j + 1), none⟩) (by rw [if_neg ‹¬ c = j + 1›]; simp [Addr.add])
                exact ⟨ret_int HBITS.out, hz, Kept.set Kept.refl (by exact rfl)⟩
            · go_wp2_with fail
              · go_ret
                rw [HV.out]
                have hz := HCUT.out (some ad) (by rw [if_pos ‹c = j + 1›])
                rw [show c - (j + 1) = 0 by omega] at hz
                exact ⟨ret_int HBITS.out, hz, Kept.set Kept.refl (by exact rfl)⟩
              · go_ret
                rw [HV.out]
                have hz := HCUT.out (some ⟨ad.block, ad.off + (j + 1), none⟩) (by rw [if_neg ‹¬ c = j + 1›]; simp [Addr.add])
                exact ⟨ret_int HBITS.out, hz, Kept.set Kept.refl (by exact rfl)⟩
            · go_wp2_with fail
              · go_ret
                rw [HV.out]
                have hz := HCUT.out (some ad) (by rw [if_pos ‹c = j + 1›])
                rw [show c - (j + 1) = 0 by omega] at hz
                exact ⟨ret_int HBITS.out, hz, Kept.set Kept.refl (by exact rfl)⟩
              · go_ret
                rw [HV.out]
                have hz := HCUT.out (some ⟨ad.block, ad.off + (j + 1), none⟩) (by rw [if_neg ‹¬ c = j + 1›]; simp [Addr.add])
                exact ⟨ret_int HBITS.out, hz, Kept.set Kept.refl (by exact rfl)⟩
    · have hjn' : j = n := by omega
      have hv : rdNum l bad = (0, [], true) := by
        have := HR.out
        rw [List.drop_eq_nil_of_le (by rw [HL.out]; omega), rdU] at this
        simp [rdNum, this]
      have HV := Lib.hid hv
      clear hv HR hjn'
      go_wp2_with fail
      refine C.out.mono ?_
      rintro e w2 ⟨rfl, hr2, hk2⟩
      go_wp2
      go_ret
      rw [HV.out]
      exact ⟨rfl, hr2, hk2⟩
end
end Go.Proofs.Ytifldkcfbggkeaa
