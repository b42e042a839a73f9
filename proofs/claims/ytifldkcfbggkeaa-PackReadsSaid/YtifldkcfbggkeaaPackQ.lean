/- The reference's reader answers as pack's does. Conditions: the reader lies in memory as RdAt says. -/
import Derived.Test.YtifldkcfbggkeaaPackS
namespace Go.Proofs.Ytifldkcfbggkeaa
open Go.RowKit

section
variable {w : World} {p : Nat} {l : List UInt8} {bad : Bool}

theorem fail_any (h : RdAt 62 w p l bad) :
    Calls Try.prog 52 #[.pointer (some ⟨p, 0, none⟩)] w fun e w' => e = .returned (.int .u64 0) ∧ RdAt 62 w' p [] true ∧ Kept (fun k => k = p) w w' := by
  obtain ⟨A, n, c, hb, hl⟩ := h
  obtain ⟨c0, c1⟩ := rd_cells hb
  have f0 := hb.frozen 0
  have f1 := hb.frozen 1
  have HB := Lib.hid hb
  clear hb hl
  go_enter Try.func52, Try.ntmps52
  go_wp2
  go_ret
  refine ⟨rfl, ⟨none, 0, 0, ?_, fun _ => ⟨rfl, rfl⟩, Reads.none_, Nat.le_refl _, Nat.zero_le _, rfl⟩, Kept.set (Kept.set Kept.refl (by exact rfl)) (by exact rfl)⟩
  have := (HB.out.set_ 1 (.bool true)).set_ 0 (.slice none 0 0)
  simpa using this

set_option maxHeartbeats 4000000 in
set_option maxRecDepth 100000 in
theorem readU_ref (h : RdAt 62 w p l bad) :
    Calls Try.prog 45 #[.pointer (some ⟨p, 0, none⟩)] w fun e w' => e = .returned (.int .u64 (rdNum l bad).1) ∧ RdAt 62 w' p (rdNum l bad).2.1 (rdNum l bad).2.2 ∧ Kept (fun k => k = p) w w' := by
  have C := Lib.hid (fail_any h)
  obtain ⟨A, n, c, hb, h0, hrd, hnc, hcm, hln⟩ := h
  obtain ⟨c0, c1⟩ := rd_cells hb
  have f0 := hb.frozen 0
  have HB := Lib.hid hb
  have HL := Lib.hid hln
  clear hb hln
  unfold maxLen at hcm
  go_enter Try.func45, Try.ntmps45
  go_wp2_with fail
  go_loopg [3, 4] 10 (fun k uv iv wr => ∃ (j acc : Nat), j + k = 10 ∧ j ≤ n ∧ j ≤ 9 ∧ acc < 2 ^ (7 * j) ∧ iv = .int .i64 (j : Int) ∧ uv = .int .u64 (acc : Int) ∧ Hid (rdU 0 0 l = rdU j acc (l.drop j)) ∧ w = wr)
  case atStart => exact ⟨0, 0, rfl, by omega, by omega, by simp, rfl, rfl, rfl, rfl⟩
  case round =>
    obtain ⟨j, acc, hj, hjn, hj9, hacc, rfl, rfl, HR, rfl⟩ := hrel
    have HJ := Lib.hid hj
    have HACC := Lib.hid hacc
    clear hj hacc
    by_cases hlt : j < n
    · obtain ⟨ad, u, rfl, _, hx, hcell⟩ := hrd.at_ hlt
      have hjl : j < l.length := by rw [HL.out]; exact hlt
      have hxb : u = byt l[j] := by simpa [hjl] using hx.symm
      subst hxb
      have hdrop : l.drop j = l[j] :: l.drop (j + 1) := List.drop_eq_getElem_cons hjl
      generalize l[j] = x at *
      unfold byt at hcell
      have hx256 := x.toNat_lt
      have HX := Lib.hid hx
      have HD := Lib.hid hdrop
      clear hx hdrop
      by_cases e1 : j = 9 ∧ 1 < x.toNat
      · have g9 : ((j : Int) == 9) = true := beq_iff_eq.2 (by omega)
        have g1 : 1 < (x.toNat : Int) := by omega
        have hv : rdNum l bad = (0, [], true) := by
          have := HR.out
          rw [HD.out, rdU, if_pos e1] at this
          simp [rdNum, this]
        have HV := Lib.hid hv
        clear hv e1
        go_wp2_with fail
        refine C.out.mono ?_
        rintro e w2 ⟨rfl, hr2, hk2⟩
        go_wp2
        go_ret
        rw [HV.out]
        exact ⟨rfl, hr2, hk2⟩
      · obtain ⟨hbits, h64, hnext⟩ := rd_bits acc x.toNat j HACC.out hj9 hx256 (by omega)
        have HBITS := Lib.hid hbits
        have HN := Lib.hid hnext
        have HE1 := Lib.hid e1
        clear hbits hnext
        by_cases e2 : 128 ≤ x.toNat
        · have g9 : ((j : Int) == 9) = false := beq_eq_false_iff_ne.2 (by omega)
          have g2 : 128 ≤ (x.toNat : Int) := by omega
          have hv : rdU 0 0 l = rdU (j + 1) (acc + x.toNat % 128 * 2 ^ (7 * j)) (l.drop (j + 1)) := by
            have := HR.out
            rw [HD.out, rdU, if_neg e1, if_pos e2] at this
            exact this
          have HV := Lib.hid hv
          clear hv e1 e2
          go_wp2_with fail
          go_roundg (9 - j)
          case measure => have := HJ.out; omega
          case rel => exact ⟨j + 1, acc + x.toNat % 128 * 2 ^ (7 * j), by have := HJ.out; omega, by omega, by have := HE1.out; omega, HN.out (by have := HE1.out; omega), by go_num, by rw [HBITS.out], HV.out, rfl⟩
        · have g2 : (x.toNat : Int) < 128 := by omega
          have hd : ((j : Int) == 9) = true ∧ (x.toNat : Int) ≤ 1 ∨ ((j : Int) == 9) = false := by
            by_cases e : j = 9
            · exact .inl ⟨beq_iff_eq.2 (by omega), by omega⟩
            · exact .inr (beq_eq_false_iff_ne.2 (by omega))
          by_cases e3 : x.toNat = 0 ∧ 0 < j
          · have hv : rdNum l bad = (0, [], true) := by
              have := HR.out
              rw [HD.out, rdU, if_neg e1, if_neg e2, if_pos e3] at this
              simp [rdNum, this]
            have HV := Lib.hid hv
            have g0 : ((x.toNat : Int) == 0) = true := beq_iff_eq.2 (by omega)
            have gj : 0 < (j : Int) := by omega
            clear hv e1 e2 e3 HR
            rcases hd with ⟨g9, g1⟩ | g9
            all_goals
              go_wp2_with fail
              refine C.out.mono ?_
              rintro e w2 ⟨rfl, hr2, hk2⟩
              go_wp2
              go_ret
              rw [HV.out]
              exact ⟨rfl, hr2, hk2⟩
          · have hv : rdNum l bad = (acc + x.toNat % 128 * 2 ^ (7 * j), l.drop (j + 1), bad) := by
              have := HR.out
              rw [HD.out, rdU, if_neg e1, if_neg e2, if_neg e3] at this
              simp [rdNum, this]
            have HV := Lib.hid hv
            have hd2 : ((x.toNat : Int) == 0) = true ∧ ¬ 0 < (j : Int) ∨ ((x.toNat : Int) == 0) = false := by
              by_cases e : x.toNat = 0
              · exact .inl ⟨beq_iff_eq.2 (by omega), by omega⟩
              · exact .inr (beq_eq_false_iff_ne.2 (by omega))
            have hcut : ∀ A', A' = (if c = j + 1 then some ad else (some ad).map (·.add (j + 1))) → RdAt 62 (w.setCell ⟨p, 0, none⟩ (.slice A' (n - (j + 1)) (c - (j + 1)))) p (l.drop (j + 1)) bad := fun A' hA => rd_cut HB.out h0 hrd hnc (by unfold maxLen; omega) HL.out (by omega) hA
            have HCUT := Lib.hid hcut
            have HP : Hid (((acc + x.toNat % 128 * 2 ^ (7 * j) : Nat) : Int) = ((acc + x.toNat % 128 * 2 ^ (7 * j) : Nat) : Int)) := rfl
            clear hv e1 e2 e3 HR h64 hcut h0 hrd
            rcases hd with ⟨g9, g1⟩ | g9 <;> rcases hd2 with ⟨g0, gj⟩ | g0
            · go_wp2_with fail
              · go_ret
                rw [HV.out]
                have hz := HCUT.out (some ad) (by rw [if_pos ‹c = j + 1›])
                rw [show c - (j + 1) = 0 by omega] at hz
                exact ⟨ret_int HBITS.out, hz, Kept.set Kept.refl (by exact rfl)⟩
              · go_ret
                rw [HV.out]
                have hz := HCUT.out (some ⟨ad.block, ad.off + (j + 1), none⟩) (by rw [if_neg ‹¬ c = j + 1›]; simp [Addr.add])
                exact ⟨ret_int HBITS.out, hz, Kept.set Kept.refl (by exact rfl)⟩
            · go_wp2_with fail
              · go_ret
                rw [HV.out]
                have hz := HCUT.out (some ad) (by rw [if_pos ‹c = j + 1›])
                rw [show c - (j + 1) = 0 by omega] at hz
                exact ⟨ret_int HBITS.out, hz, Kept.set Kept.refl (by exact rfl)⟩
              · go_ret
                rw [HV.out]
                have hz := HCUT.out (some ⟨ad.block, ad.off + (j + 1), none⟩) (by rw [if_neg ‹¬ c = j + 1›]; simp [Addr.add])
                exact ⟨ret_int HBITS.out, hz, Kept.set Kept.refl (by exact rfl)⟩
            · go_wp2_with fail
              · go_ret
                rw [HV.out]
                have hz := HCUT.out (some ad) (by rw [if_pos ‹c = j + 1›])
                rw [show c - (j + 1) = 0 by omega] at hz
                exact ⟨ret_int HBITS.out, hz, Kept.set Kept.refl (by exact rfl)⟩
              · go_ret
                rw [HV.out]
                have hz := HCUT.out (some ⟨ad.block, ad.off + (j + 1), none⟩) (by rw [if_neg ‹¬ c = j + 1›]; simp [Addr.add])
                exact ⟨ret_int HBITS.out, hz, Kept.set Kept.refl (by exact rfl)⟩
            · go_wp2_with fail
              · go_ret
                rw [HV.out]
                have hz := HCUT.out (some ad) (by rw [if_pos ‹c = j + 1›])
                rw [show c - (j + 1) = 0 by omega] at hz
                exact ⟨ret_int HBITS.out, hz, Kept.set Kept.refl (by exact rfl)⟩
              · go_ret
                rw [HV.out]
                have hz := HCUT.out (some ⟨ad.block, ad.off + (j + 1), none⟩) (by rw [if_neg ‹¬ c = j + 1›]; simp [Addr.add])
                exact ⟨ret_int HBITS.out, hz, Kept.set Kept.refl (by exact rfl)⟩
    · have hjn' : j = n := by omega
      have hv : rdNum l bad = (0, [], true) := by
        have := HR.out
        rw [List.drop_eq_nil_of_le (by rw [HL.out]; omega), rdU] at this
        simp [rdNum, this]
      have HV := Lib.hid hv
      clear hv HR hjn'
      go_wp2_with fail
      refine C.out.mono ?_
      rintro e w2 ⟨rfl, hr2, hk2⟩
      go_wp2
      go_ret
      rw [HV.out]
      exact ⟨rfl, hr2, hk2⟩
set_option maxHeartbeats 400000 in
theorem readI_ref (h : RdAt 62 w p l bad) :
    Calls Try.prog 43 #[.pointer (some ⟨p, 0, none⟩)] w fun e w' => e = .returned (.int .i64 (rdInt l bad).1) ∧ RdAt 62 w' p (rdInt l bad).2.1 (rdInt l bad).2.2 ∧ Kept (fun k => k = p) w w' := by
  have C := Lib.hid (readU_ref h)
  have hlt := rdNum_lt l bad
  have hr : rdInt l bad = (unzig (rdNum l bad).1, (rdNum l bad).2) := rfl
  rw [hr]
  generalize rdNum l bad = q at C hlt ⊢
  obtain ⟨u, l', bad'⟩ := q
  dsimp only at C hlt ⊢
  clear hr
  by_cases hev : u % 2 = 0
  · have g : ((u : Int) % 2 == 0) = true := beq_iff_eq.2 (by omega)
    have HU : Hid ((u : Int) / 2 = unzig u) := show _ = _ by unfold unzig; rw [if_pos hev]; omega
    clear hev
    go_enter Try.func43, Try.ntmps43
    go_wp2_with fail
    refine C.out.mono ?_
    rintro e w1 ⟨rfl, hr1, hk1⟩
    go_wp2
    go_ret
    exact ⟨ret_int HU.out, hr1, hk1⟩
  · have g : ((u : Int) % 2 == 0) = false := beq_eq_false_iff_ne.2 (by omega)
    have HU : Hid (-((u : Int) / 2) - 1 = unzig u) := show _ = _ by unfold unzig; rw [if_neg hev]; omega
    clear hev
    go_enter Try.func43, Try.ntmps43
    go_wp2_with fail
    refine C.out.mono ?_
    rintro e w1 ⟨rfl, hr1, hk1⟩
    go_wp2
    go_ret
    exact ⟨ret_int HU.out, hr1, hk1⟩

set_option maxHeartbeats 400000 in
theorem readS_ref (h : RdAt 62 w p l bad) :
    Calls Try.prog 44 #[.pointer (some ⟨p, 0, none⟩)] w fun e w' => e = .returned (.string ⟨(rdStr l bad).1.toArray⟩) ∧ RdAt 62 w' p (rdStr l bad).2.1 (rdStr l bad).2.2 ∧ Kept (fun k => k = p) w w' := by
  have C := Lib.hid (readU_ref h)
  have hlt := rdNum_lt l bad
  unfold rdStr
  generalize rdNum l bad = q at C hlt ⊢
  obtain ⟨u, l', bad'⟩ := q
  dsimp only at C hlt ⊢
  by_cases hu : l'.length < u
  · rw [if_pos hu]
    go_enter Try.func44, Try.ntmps44
    go_wp2_with fail
    refine C.out.mono ?_
    rintro e w1 ⟨rfl, hr1, hk1⟩
    have SP := Lib.hid (fail_any hr1)
    obtain ⟨A, n, c, hb, h0, hrd, hnc, hcm, hln⟩ := id hr1
    subst hln
    unfold maxLen at hcm
    obtain ⟨c0, c1⟩ := rd_cells hb
    clear hb
    go_wp2_with fail
    refine SP.out.mono ?_
    rintro e w2 ⟨rfl, hr2, hk2⟩
    go_wp2
    go_ret
    exact ⟨rfl, hr2, hk1.trans hk2 (fun _ _ h => h)⟩
  · rw [if_neg hu]
    go_enter Try.func44, Try.ntmps44
    go_wp2_with fail
    refine C.out.mono ?_
    rintro e w1 ⟨rfl, hr1, hk1⟩
    obtain ⟨A, n, c, hb, h0, hrd, hnc, hcm, hln⟩ := id hr1
    subst hln
    have hcut : ∀ A', A' = (if c = u then A else A.map (·.add u)) → RdAt 62 (w1.setCell ⟨p, 0, none⟩ (.slice A' (l'.length - u) (c - u))) p (l'.drop u) bad' := fun A' hA => rd_cut hb h0 hrd hnc hcm rfl (by omega) hA
    unfold maxLen at hcm
    obtain ⟨c0, c1⟩ := rd_cells hb
    have f0 := hb.frozen 0
    have cv := run_string_of w1 27 9 5 Try.underlying27 Try.underlying5 Try.underlying9 (c := c) (l := l'.take u) (by rw [List.map_take]; exact hrd.take_ (by omega))
    have HCUT := Lib.hid hcut
    clear hb hcut
    go_wp2_with fail
    · go_ret
      have hz := HCUT.out A (by rw [if_pos ‹c = u›])
      first
        | exact ⟨rfl, hz, hk1.trans (Kept.set Kept.refl (by exact rfl)) (fun _ _ h => h)⟩
        | (rw [show c - u = 0 by omega] at hz; exact ⟨rfl, hz, hk1.trans (Kept.set Kept.refl (by exact rfl)) (fun _ _ h => h)⟩)
    · go_ret
      have hz := HCUT.out _ (by rw [if_neg ‹¬ c = u›])
      exact ⟨rfl, hz, hk1.trans (Kept.set Kept.refl (by exact rfl)) (fun _ _ h => h)⟩
end
end Go.Proofs.Ytifldkcfbggkeaa
